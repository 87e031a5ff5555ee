/-
  Literals of functions, for the abstract machine; that they are meant.
-/
import Derived.Test.YtdnoopjpkcmpjaaProg
import Derived.Test.YtdnoopjpkcmpjaaAmGU
import Derived.Test.YtdnoopjpkcmpjaaAmGS
import Derived.KernelRfl
set_option linter.unusedSimpArgs false
set_option linter.unusedVariables false
namespace Go.Proofs.Ytdnoopjpkcmpjaa
open Go.Am
/-- catacomb/catacomblaw08.HoldBack -/
def c3 : AF := AF.mk 119 [.t 6] (.seq (.ops (.op (some 5) (.rbox (.t 2)) (.op (some 6) (.mv (.c (.bool false))) (.nil))))
 (.seq (.ops (.op (some 20) (.call 9 []) (.op (some 7) (.mv (.t 20)) (.nil))))
 (.seq (.seq (.ops (.op (some 21) (.mv (.t 0)) (.op (some 22) (.mv (.t 1)) (.op (some 23) (.call 10 [(.t 21), (.t 22)]) (.nil)))))
 (.cond (.t 23) (.seq (.ops (.op (some 24) (.mv (.t 7)) (.op (some 6) (.mv (.t 24)) (.nil))))
 (.ret)) (.skip)))
 (.seq (.ops (.op (some 26) (.mv (.t 0)) (.op (some 27) (.mv (.t 1)) (.op (some 28) (.call 11 [(.t 26), (.t 27)]) (.op (some 25) (.mv (.t 28)) (.op (some 29) (.ext (.t 25) 0) (.op (some 30) (.ext (.t 25) 1) (.op (some 8) (.alloc [.lst true [], .int .i64 0, .int .i64 0]) (.op none (.store 3 (.t 8) (.t 29)) (.op (some 9) (.mv (.t 30)) (.nil)))))))))))
 (.seq (.ops (.op (some 31) (.load 3 true (.t 8)) (.op (some 32) (.fad 3 (.t 5)) (.op (some 33) (.loadr 1 false (.t 32)) (.op (some 34) (.call 12 [(.t 31), (.t 33)]) (.op (some 10) (.mv (.t 34)) (.nil)))))))
 (.seq (.ops (.op (some 36) (.load 3 true (.t 8)) (.op (some 37) (.mv (.t 9)) (.op (some 38) (.loadr 5 true (.t 5)) (.op (some 39) (.callp 14 [(.t 38)]) (.op (some 40) (.loadr 5 true (.t 5)) (.op (some 41) (.callp 15 [(.t 40)]) (.op (some 42) (.mv (.t 10)) (.op (some 43) (.callp 13 [(.t 36), (.t 37), (.t 39), (.t 41), (.t 42)]) (.op (some 35) (.mv (.t 43)) (.op (some 44) (.ext (.t 35) 0) (.op (some 45) (.ext (.t 35) 1) (.op (some 11) (.mv (.t 44)) (.op (some 12) (.mv (.t 45)) (.nil)))))))))))))))
 (.seq (.seq (.ops (.op (some 46) (.mv (.t 12)) (.op (some 47) (.bin .neq (.t 46) (.c (.int .i64 0))) (.nil))))
 (.cond (.t 47) (.seq (.ops (.op (some 48) (.mv (.t 7)) (.op (some 49) (.mv (.t 48)) (.sc 53 true 49 50 52 (.op (some 50) (.mv (.t 11)) (.op (some 51) (.mv (.t 9)) (.op (some 52) (.call 16 [(.t 50), (.t 51)]) (.nil)))) (.t 52) (.op (some 6) (.mv (.t 53)) (.nil))))))
 (.ret)) (.skip)))
 (.seq (.ops (.op (some 55) (.mv (.t 11)) (.op (some 56) (.loadr 5 true (.t 5)) (.op (some 57) (.callp 14 [(.t 56)]) (.op (some 58) (.loadr 5 true (.t 5)) (.op (some 59) (.callp 15 [(.t 58)]) (.op (some 60) (.callp 17 [(.t 55), (.t 57), (.t 59)]) (.op (some 54) (.mv (.t 60)) (.op (some 61) (.ext (.t 54) 0) (.op (some 62) (.ext (.t 54) 1) (.op (some 13) (.mv (.t 61)) (.op (some 14) (.mv (.t 62)) (.nil)))))))))))))
 (.seq (.ops (.op (some 64) (.mv (.t 9)) (.op (some 65) (.loadr 5 true (.t 5)) (.op (some 66) (.callp 14 [(.t 65)]) (.op (some 67) (.loadr 5 true (.t 5)) (.op (some 68) (.callp 15 [(.t 67)]) (.op (some 69) (.callp 17 [(.t 64), (.t 66), (.t 68)]) (.op (some 63) (.mv (.t 69)) (.op (some 70) (.ext (.t 63) 0) (.op (some 71) (.ext (.t 63) 1) (.op (some 15) (.mv (.t 70)) (.op (some 16) (.mv (.t 71)) (.nil)))))))))))))
 (.seq (.ops (.op (some 73) (.load 3 true (.t 8)) (.op (some 74) (.mv (.t 11)) (.op (some 75) (.loadr 5 true (.t 5)) (.op (some 76) (.callp 14 [(.t 75)]) (.op (some 77) (.loadr 5 true (.t 5)) (.op (some 78) (.callp 15 [(.t 77)]) (.op (some 79) (.callp 18 [(.t 73), (.t 74), (.t 76), (.t 78)]) (.op (some 72) (.mv (.t 79)) (.op (some 80) (.ext (.t 72) 0) (.op (some 81) (.ext (.t 72) 1) (.op (some 82) (.ext (.t 72) 2) (.op (some 17) (.alloc [.lst true [], .int .i64 0, .int .i64 0]) (.op none (.store 3 (.t 17) (.t 80)) (.op (some 18) (.mv (.t 81)) (.op (some 19) (.mv (.t 82)) (.nil)))))))))))))))))
 (.seq (.ops (.op (some 83) (.mv (.t 7)) (.op (some 84) (.mv (.t 83)) (.sc 88 true 84 85 87 (.op (some 85) (.mv (.t 13)) (.op (some 86) (.mv (.t 10)) (.op (some 87) (.bin .eql (.t 85) (.t 86)) (.nil)))) (.t 87) (.op (some 89) (.mv (.t 88)) (.sc 92 true 89 90 91 (.op (some 90) (.mv (.t 14)) (.op (some 91) (.bin .eql (.t 90) (.c (.int .i64 0))) (.nil))) (.t 91) (.op (some 93) (.mv (.t 92)) (.sc 96 true 93 94 95 (.op (some 94) (.mv (.t 16)) (.op (some 95) (.bin .eql (.t 94) (.c (.int .i64 80))) (.nil))) (.t 95) (.op (some 97) (.mv (.t 96)) (.sc 100 true 97 98 99 (.op (some 98) (.mv (.t 19)) (.op (some 99) (.bin .eql (.t 98) (.c (.int .i64 0))) (.nil))) (.t 99) (.op (some 101) (.mv (.t 100)) (.sc 105 true 101 102 104 (.op (some 102) (.load 3 true (.t 17)) (.op (some 103) (.load 3 true (.t 8)) (.op (some 104) (.call 19 [(.t 102), (.t 103)]) (.nil)))) (.t 104) (.op (some 106) (.mv (.t 105)) (.sc 110 true 106 107 109 (.op (some 107) (.mv (.t 18)) (.op (some 108) (.mv (.t 9)) (.op (some 109) (.call 16 [(.t 107), (.t 108)]) (.nil)))) (.t 109) (.op (some 111) (.mv (.t 110)) (.sc 118 true 111 112 117 (.op (some 112) (.mv (.t 11)) (.op (some 113) (.len false (.t 112)) (.op (some 114) (.mv (.t 9)) (.op (some 115) (.len false (.t 114)) (.op (some 116) (.bin .add (.t 115) (.c (.int .i64 1))) (.op (some 117) (.bin .eql (.t 113) (.t 116)) (.nil))))))) (.t 117) (.op (some 6) (.mv (.t 118)) (.nil))))))))))))))))))
 (.ret))))))))))))

theorem ok3 : okF Try.prog 3 c3 = true := by kernel_rfl

/-- catacomb/catacomblaw08.HoldTells -/
def b4_1 : AC := .seq (.seq (.ops (.op (some 45) (.mv (.t 14)) (.op (some 46) (.mv (.t 1)) (.op (some 47) (.len false (.t 46)) (.op (some 48) (.bin .lss (.t 45) (.t 47)) (.nil))))))
 (.cond (.t 48) (.skip) (.exit 0)))
 (.seq (.block 1 (.seq (.ops (.op (some 52) (.load 3 true (.t 12)) (.op (some 53) (.mv (.t 13)) (.op (some 54) (.mv (.t 1)) (.op (some 55) (.mv (.t 14)) (.op (some 56) (.iad 5 (.t 54) (.t 55)) (.op (some 57) (.load 5 true (.t 56)) (.op (some 58) (.callp 21 [(.t 52), (.t 53), (.t 57)]) (.op (some 51) (.mv (.t 58)) (.op (some 59) (.ext (.t 51) 0) (.op (some 60) (.ext (.t 51) 1) (.op (some 61) (.ext (.t 51) 2) (.op (some 15) (.alloc [.lst true [], .int .i64 0, .int .i64 0]) (.op none (.store 3 (.t 15) (.t 59)) (.op (some 16) (.mv (.t 60)) (.op (some 17) (.mv (.t 61)) (.nil)))))))))))))))))
 (.seq (.ops (.op (some 63) (.load 3 true (.t 12)) (.op (some 64) (.mv (.t 13)) (.op (some 65) (.mv (.t 1)) (.op (some 66) (.mv (.t 14)) (.op (some 67) (.iad 5 (.t 65) (.t 66)) (.op (some 68) (.load 5 true (.t 67)) (.op (some 69) (.callp 22 [(.t 63), (.t 64), (.t 68)]) (.op (some 62) (.mv (.t 69)) (.op (some 70) (.ext (.t 62) 0) (.op (some 71) (.ext (.t 62) 1) (.op (some 72) (.ext (.t 62) 2) (.op (some 18) (.alloc [.lst true [], .int .i64 0, .int .i64 0]) (.op none (.store 3 (.t 18) (.t 70)) (.op (some 19) (.mv (.t 71)) (.op (some 20) (.mv (.t 72)) (.nil)))))))))))))))))
 (.seq (.ops (.op (some 74) (.mv (.t 19)) (.op (some 75) (.mv (.t 1)) (.op (some 76) (.mv (.t 14)) (.op (some 77) (.iad 5 (.t 75) (.t 76)) (.op (some 78) (.load 5 true (.t 77)) (.op (some 79) (.callp 14 [(.t 78)]) (.op (some 80) (.mv (.t 1)) (.op (some 81) (.mv (.t 14)) (.op (some 82) (.iad 5 (.t 80) (.t 81)) (.op (some 83) (.load 5 true (.t 82)) (.op (some 84) (.callp 15 [(.t 83)]) (.op (some 85) (.callp 17 [(.t 74), (.t 79), (.t 84)]) (.op (some 73) (.mv (.t 85)) (.op (some 86) (.ext (.t 73) 0) (.op (some 87) (.ext (.t 73) 1) (.op (some 21) (.mv (.t 86)) (.op (some 22) (.mv (.t 87)) (.nil)))))))))))))))))))
 (.seq (.ops (.op (some 89) (.mv (.t 19)) (.op (some 90) (.mv (.t 1)) (.op (some 91) (.mv (.t 14)) (.op (some 92) (.iad 5 (.t 90) (.t 91)) (.op (some 93) (.load 5 true (.t 92)) (.op (some 94) (.callp 14 [(.t 93)]) (.op (some 95) (.mv (.t 1)) (.op (some 96) (.mv (.t 14)) (.op (some 97) (.iad 5 (.t 95) (.t 96)) (.op (some 98) (.load 5 true (.t 97)) (.op (some 99) (.callp 15 [(.t 98)]) (.op (some 100) (.callp 23 [(.t 89), (.t 94), (.t 99)]) (.op (some 88) (.mv (.t 100)) (.op (some 101) (.ext (.t 88) 0) (.op (some 102) (.ext (.t 88) 1) (.op (some 23) (.mv (.t 101)) (.op (some 24) (.mv (.t 102)) (.nil)))))))))))))))))))
 (.seq (.seq (.ops (.op (some 103) (.mv (.t 17)) (.op (some 104) (.mv (.t 20)) (.op (some 105) (.bin .neq (.t 103) (.t 104)) (.op (some 106) (.mv (.t 105)) (.sc 111 false 106 107 110 (.op (some 107) (.load 3 true (.t 15)) (.op (some 108) (.load 3 true (.t 18)) (.op (some 109) (.call 19 [(.t 107), (.t 108)]) (.op (some 110) (.un .not (.t 109)) (.nil))))) (.t 110) (.op (some 112) (.mv (.t 111)) (.sc 117 false 112 113 116 (.op (some 113) (.mv (.t 16)) (.op (some 114) (.mv (.t 19)) (.op (some 115) (.call 16 [(.t 113), (.t 114)]) (.op (some 116) (.un .not (.t 115)) (.nil))))) (.t 116) (.op (some 118) (.mv (.t 117)) (.sc 122 false 118 119 121 (.op (some 119) (.mv (.t 21)) (.op (some 120) (.mv (.t 23)) (.op (some 121) (.bin .neq (.t 119) (.t 120)) (.nil)))) (.t 121) (.op (some 123) (.mv (.t 122)) (.sc 127 false 123 124 126 (.op (some 124) (.mv (.t 22)) (.op (some 125) (.mv (.t 24)) (.op (some 126) (.bin .neq (.t 124) (.t 125)) (.nil)))) (.t 126) (.nil)))))))))))))
 (.cond (.t 127) (.seq (.ops (.op (some 10) (.mv (.c (.bool false))) (.nil)))
 (.ret)) (.skip)))
 (.seq (.ops (.op (some 128) (.load 3 true (.t 18)) (.op none (.store 3 (.t 12) (.t 128)) (.nil))))
 (.ops (.op (some 129) (.mv (.t 19)) (.op (some 13) (.mv (.t 129)) (.nil)))))))))))
 (.ops (.op (some 49) (.mv (.t 14)) (.op (some 50) (.bin .add (.t 49) (.c (.int .i64 1))) (.op (some 14) (.mv (.t 50)) (.nil))))))
def c4_1 : AC := b4_1
@[simp] theorem e4_1 {Γ : Tab} {V : Nat → Bool} {ρ : Type} (k : AX → St → Option ρ) (s : St) : eval Γ c4_1 V ρ k s = eval Γ b4_1 V ρ k s := rfl
def b4_2 : AC := .seq (.seq (.ops (.op (some 139) (.mv (.t 27)) (.op (some 140) (.mv (.t 25)) (.op (some 141) (.len false (.t 140)) (.op (some 142) (.bin .lss (.t 139) (.t 141)) (.nil))))))
 (.cond (.t 142) (.skip) (.exit 2)))
 (.seq (.block 3 (.seq (.ops (.op (some 145) (.mv (.t 25)) (.op (some 146) (.mv (.t 27)) (.op (some 147) (.iad 1 (.t 145) (.t 146)) (.op (some 148) (.load 1 false (.t 147)) (.op (some 149) (.mv (.t 26)) (.op (some 150) (.mv (.t 27)) (.op (some 151) (.iad 1 (.t 149) (.t 150)) (.op (some 152) (.load 1 false (.t 151)) (.op (some 153) (.bin .neq (.t 148) (.t 152)) (.nil)))))))))))
 (.cond (.t 153) (.seq (.ops (.op (some 10) (.mv (.c (.bool false))) (.nil)))
 (.ret)) (.skip))))
 (.ops (.op (some 143) (.mv (.t 27)) (.op (some 144) (.bin .add (.t 143) (.c (.int .i64 1))) (.op (some 27) (.mv (.t 144)) (.nil))))))
def c4_2 : AC := b4_2
@[simp] theorem e4_2 {Γ : Tab} {V : Nat → Bool} {ρ : Type} (k : AX → St → Option ρ) (s : St) : eval Γ c4_2 V ρ k s = eval Γ b4_2 V ρ k s := rfl
def c4 : AF := AF.mk 197 [.t 10] (.seq (.ops (.op (some 10) (.mv (.c (.bool false))) (.nil)))
 (.seq (.ops (.op (some 32) (.call 9 []) (.op (some 11) (.mv (.t 32)) (.nil))))
 (.seq (.seq (.ops (.op (some 33) (.mv (.t 0)) (.op (some 34) (.mv (.t 1)) (.op (some 35) (.call 10 [(.t 33), (.t 34)]) (.op (some 36) (.mv (.t 35)) (.sc 40 false 36 37 39 (.op (some 37) (.mv (.t 2)) (.op (some 38) (.len false (.t 37)) (.op (some 39) (.bin .gtr (.t 38) (.c (.int .i64 100))) (.nil)))) (.t 39) (.nil)))))))
 (.cond (.t 40) (.seq (.ops (.op (some 41) (.mv (.t 11)) (.op (some 10) (.mv (.t 41)) (.nil))))
 (.ret)) (.skip)))
 (.seq (.ops (.op (some 42) (.mv (.t 0)) (.op (some 43) (.call 20 [(.t 42)]) (.op (some 12) (.alloc [.lst true [], .int .i64 0, .int .i64 0]) (.op none (.store 3 (.t 12) (.t 43)) (.nil))))))
 (.seq (.ops (.op (some 44) (.bslh 3 (.agg [.int .i64 0, .int .i64 0, .int .i64 0]) 0 []) (.op (some 13) (.mv (.t 44)) (.nil))))
 (.seq (.seq (.ops (.op (some 14) (.mv (.c (.int .i64 0))) (.nil)))
 (.block 0 (.loop [13, 14] [(10, 10), (13, 24), (45, 129)] [] [(.exit 0, [13]), (.ret, [10])] c4_1)))
 (.seq (.ops (.op (some 130) (.load 3 true (.t 12)) (.op (some 131) (.call 24 [(.t 130)]) (.op (some 25) (.mv (.t 131)) (.nil)))))
 (.seq (.ops (.op (some 132) (.load 3 true (.t 12)) (.op (some 133) (.call 25 [(.t 132)]) (.op (some 26) (.mv (.t 133)) (.nil)))))
 (.seq (.seq (.ops (.op (some 134) (.mv (.t 25)) (.op (some 135) (.len false (.t 134)) (.op (some 136) (.mv (.t 26)) (.op (some 137) (.len false (.t 136)) (.op (some 138) (.bin .neq (.t 135) (.t 137)) (.nil)))))))
 (.cond (.t 138) (.seq (.ops (.op (some 10) (.mv (.c (.bool false))) (.nil)))
 (.ret)) (.skip)))
 (.seq (.seq (.ops (.op (some 27) (.mv (.c (.int .i64 0))) (.nil)))
 (.block 2 (.loop [27] [(10, 10), (27, 27), (139, 153)] [] [(.exit 2, []), (.ret, [10])] c4_2)))
 (.seq (.ops (.op (some 155) (.mv (.t 2)) (.op (some 156) (.mv (.t 3)) (.op (some 157) (.mv (.t 4)) (.op (some 158) (.call 17 [(.t 155), (.t 156), (.t 157)]) (.op (some 154) (.mv (.t 158)) (.op (some 159) (.ext (.t 154) 0) (.op (some 160) (.ext (.t 154) 1) (.op (some 28) (.mv (.t 159)) (.op (some 29) (.mv (.t 160)) (.nil)))))))))))
 (.seq (.ops (.op (some 162) (.mv (.t 2)) (.op (some 163) (.mv (.t 3)) (.op (some 164) (.mv (.t 4)) (.op (some 165) (.call 23 [(.t 162), (.t 163), (.t 164)]) (.op (some 161) (.mv (.t 165)) (.op (some 166) (.ext (.t 161) 0) (.op (some 167) (.ext (.t 161) 1) (.op (some 30) (.mv (.t 166)) (.op (some 31) (.mv (.t 167)) (.nil)))))))))))
 (.seq (.ops (.op (some 168) (.mv (.t 11)) (.op (some 169) (.mv (.t 168)) (.sc 177 true 169 170 176 (.op (some 170) (.load 3 true (.t 12)) (.op (some 171) (.mv (.t 2)) (.op (some 172) (.callp 26 [(.t 170), (.t 171)]) (.op (some 173) (.load 3 true (.t 12)) (.op (some 174) (.mv (.t 2)) (.op (some 175) (.callp 27 [(.t 173), (.t 174)]) (.op (some 176) (.beq false (.t 172) (.t 175)) (.nil)))))))) (.t 176) (.op (some 178) (.mv (.t 177)) (.sc 186 true 178 179 185 (.op (some 179) (.load 3 true (.t 12)) (.op (some 180) (.mv (.t 13)) (.op (some 181) (.callp 26 [(.t 179), (.t 180)]) (.op (some 182) (.load 3 true (.t 12)) (.op (some 183) (.mv (.t 13)) (.op (some 184) (.callp 27 [(.t 182), (.t 183)]) (.op (some 185) (.beq false (.t 181) (.t 184)) (.nil)))))))) (.t 185) (.op (some 187) (.mv (.t 186)) (.sc 191 true 187 188 190 (.op (some 188) (.mv (.t 28)) (.op (some 189) (.mv (.t 30)) (.op (some 190) (.bin .eql (.t 188) (.t 189)) (.nil)))) (.t 190) (.op (some 192) (.mv (.t 191)) (.sc 196 true 192 193 195 (.op (some 193) (.mv (.t 29)) (.op (some 194) (.mv (.t 31)) (.op (some 195) (.bin .eql (.t 193) (.t 194)) (.nil)))) (.t 195) (.op (some 10) (.mv (.t 196)) (.nil))))))))))))
 (.ret))))))))))))))

theorem ok4 : okF Try.prog 4 c4 = true := by kernel_rfl

/-- catacomb/catacomblaw08.HoldRight -/
def c5 : AF := AF.mk 62 [.t 6] (.seq (.ops (.op (some 5) (.rbox (.t 2)) (.op (some 6) (.mv (.c (.bool false))) (.nil))))
 (.seq (.ops (.op (some 13) (.call 9 []) (.op (some 7) (.mv (.t 13)) (.nil))))
 (.seq (.seq (.ops (.op (some 14) (.mv (.t 0)) (.op (some 15) (.mv (.t 1)) (.op (some 16) (.call 10 [(.t 14), (.t 15)]) (.nil)))))
 (.cond (.t 16) (.seq (.ops (.op (some 17) (.mv (.t 7)) (.op (some 6) (.mv (.t 17)) (.nil))))
 (.ret)) (.skip)))
 (.seq (.ops (.op (some 19) (.mv (.t 0)) (.op (some 20) (.mv (.t 1)) (.op (some 21) (.call 11 [(.t 19), (.t 20)]) (.op (some 18) (.mv (.t 21)) (.op (some 22) (.ext (.t 18) 0) (.op (some 23) (.ext (.t 18) 1) (.op (some 8) (.alloc [.lst true [], .int .i64 0, .int .i64 0]) (.op none (.store 3 (.t 8) (.t 22)) (.op (some 9) (.mv (.t 23)) (.nil)))))))))))
 (.seq (.ops (.op (some 25) (.load 3 true (.t 8)) (.op (some 26) (.mv (.t 9)) (.op (some 27) (.loadr 5 true (.t 5)) (.op (some 28) (.call 21 [(.t 25), (.t 26), (.t 27)]) (.op (some 24) (.mv (.t 28)) (.op (some 29) (.ext (.t 24) 0) (.op (some 30) (.ext (.t 24) 1) (.op (some 31) (.ext (.t 24) 2) (.op (some 10) (.alloc [.lst true [], .int .i64 0, .int .i64 0]) (.op none (.store 3 (.t 10) (.t 29)) (.op (some 11) (.mv (.t 30)) (.op (some 12) (.mv (.t 31)) (.nil))))))))))))))
 (.seq (.seq (.ops (.op (some 32) (.load 3 true (.t 8)) (.op (some 33) (.mv (.t 9)) (.op (some 34) (.call 26 [(.t 32), (.t 33)]) (.op (some 35) (.un .not (.t 34)) (.op (some 36) (.mv (.t 35)) (.sc 40 false 36 37 39 (.op (some 37) (.load 3 true (.t 10)) (.op (some 38) (.call 28 [(.t 37)]) (.op (some 39) (.un .not (.t 38)) (.nil)))) (.t 39) (.op (some 41) (.mv (.t 40)) (.sc 46 false 41 42 45 (.op (some 42) (.load 3 true (.t 10)) (.op (some 43) (.mv (.t 11)) (.op (some 44) (.call 26 [(.t 42), (.t 43)]) (.op (some 45) (.un .not (.t 44)) (.nil))))) (.t 45) (.nil))))))))))
 (.cond (.t 46) (.seq (.ops (.op (some 6) (.mv (.c (.bool false))) (.nil)))
 (.ret)) (.skip)))
 (.seq (.ops (.op (some 47) (.mv (.t 7)) (.op (some 48) (.mv (.t 47)) (.sc 61 true 48 49 60 (.op (some 49) (.mv (.t 12)) (.op (some 50) (.bin .eql (.t 49) (.c (.int .i64 0))) (.op (some 51) (.mv (.t 50)) (.sc 60 false 51 52 59 (.op (some 52) (.load 3 true (.t 8)) (.op (some 53) (.load 3 true (.t 10)) (.op (some 54) (.call 19 [(.t 52), (.t 53)]) (.op (some 55) (.mv (.t 54)) (.sc 59 true 55 56 58 (.op (some 56) (.mv (.t 9)) (.op (some 57) (.mv (.t 11)) (.op (some 58) (.call 16 [(.t 56), (.t 57)]) (.nil)))) (.t 58) (.nil)))))) (.t 59) (.nil))))) (.t 60) (.op (some 6) (.mv (.t 61)) (.nil))))))
 (.ret))))))))

theorem ok5 : okF Try.prog 5 c5 = true := by kernel_rfl

/-- catacomb/catacomblaw08.HoldKept -/
def b6_1 : AC := .seq (.seq (.ops (.op (some 42) (.mv (.t 13)) (.op (some 43) (.mv (.t 11)) (.op (some 44) (.len false (.t 43)) (.op (some 45) (.bin .lss (.t 42) (.t 44)) (.nil))))))
 (.cond (.t 45) (.skip) (.exit 0)))
 (.seq (.block 1 (.seq (.ops (.op (some 49) (.load 3 true (.t 10)) (.op (some 50) (.mv (.t 11)) (.op (some 51) (.mv (.t 13)) (.op (some 52) (.iad 3 (.t 50) (.t 51)) (.op (some 53) (.fad 2 (.t 52)) (.op (some 54) (.load 1 false (.t 53)) (.op (some 55) (.callp 29 [(.t 49), (.t 54)]) (.op (some 48) (.mv (.t 55)) (.op (some 56) (.ext (.t 48) 0) (.op (some 57) (.ext (.t 48) 1) (.op (some 14) (.alloc [.int .i64 0, .int .i64 0, .int .i64 0, .lst true [], .lst true [], .int .i64 0]) (.op none (.store 6 (.t 14) (.t 56)) (.op (some 15) (.mv (.t 57)) (.nil)))))))))))))))
 (.seq (.ops (.op (some 59) (.load 3 true (.t 8)) (.op (some 60) (.mv (.t 11)) (.op (some 61) (.mv (.t 13)) (.op (some 62) (.iad 3 (.t 60) (.t 61)) (.op (some 63) (.fad 2 (.t 62)) (.op (some 64) (.load 1 false (.t 63)) (.op (some 65) (.callp 29 [(.t 59), (.t 64)]) (.op (some 58) (.mv (.t 65)) (.op (some 66) (.ext (.t 58) 0) (.op (some 67) (.ext (.t 58) 1) (.op (some 16) (.alloc [.int .i64 0, .int .i64 0, .int .i64 0, .lst true [], .lst true [], .int .i64 0]) (.op none (.store 6 (.t 16) (.t 66)) (.op (some 17) (.mv (.t 67)) (.nil)))))))))))))))
 (.seq (.ops (.op (some 68) (.mv (.t 15)) (.op (some 69) (.un .not (.t 68)) (.op (some 70) (.mv (.t 69)) (.sc 73 false 70 71 72 (.op (some 71) (.mv (.t 17)) (.op (some 72) (.un .not (.t 71)) (.nil))) (.t 72) (.op (some 74) (.mv (.t 73)) (.sc 82 false 74 75 81 (.op (some 75) (.fad 3 (.t 14)) (.op (some 76) (.load 1 false (.t 75)) (.op (some 77) (.bts (.t 76)) (.op (some 78) (.fad 3 (.t 16)) (.op (some 79) (.load 1 false (.t 78)) (.op (some 80) (.bts (.t 79)) (.op (some 81) (.bin .neq (.t 77) (.t 80)) (.nil)))))))) (.t 81) (.op (some 83) (.mv (.t 82)) (.sc 87 false 83 84 86 (.op (some 84) (.fad 1 (.t 14)) (.op (some 85) (.load 1 false (.t 84)) (.op (some 86) (.bin .neq (.t 85) (.c (.int .i64 1))) (.nil)))) (.t 86) (.nil))))))))))
 (.cond (.t 87) (.seq (.ops (.op (some 6) (.mv (.c (.bool false))) (.nil)))
 (.ret)) (.skip))))))
 (.ops (.op (some 46) (.mv (.t 13)) (.op (some 47) (.bin .add (.t 46) (.c (.int .i64 1))) (.op (some 13) (.mv (.t 47)) (.nil))))))
def c6_1 : AC := b6_1
@[simp] theorem e6_1 {Γ : Tab} {V : Nat → Bool} {ρ : Type} (k : AX → St → Option ρ) (s : St) : eval Γ c6_1 V ρ k s = eval Γ b6_1 V ρ k s := rfl
def b6_2 : AC := .seq (.seq (.ops (.op (some 93) (.mv (.t 18)) (.op (some 94) (.fad 0 (.t 8)) (.op (some 95) (.load 1 false (.t 94)) (.op (some 96) (.len false (.t 95)) (.op (some 97) (.bin .lss (.t 93) (.t 96)) (.nil)))))))
 (.cond (.t 97) (.skip) (.exit 2)))
 (.seq (.block 3 (.seq (.ops (.op (some 100) (.fad 0 (.t 8)) (.op (some 101) (.load 1 false (.t 100)) (.op (some 102) (.mv (.t 18)) (.op (some 103) (.iad 6 (.t 101) (.t 102)) (.op (some 104) (.load 6 true (.t 103)) (.op (some 19) (.alloc [.int .i64 0, .int .i64 0, .int .i64 0, .lst true [], .lst true [], .int .i64 0]) (.op none (.store 6 (.t 19) (.t 104)) (.nil)))))))))
 (.seq (.ops (.op (some 106) (.load 3 true (.t 10)) (.op (some 107) (.fad 0 (.t 19)) (.op (some 108) (.load 1 false (.t 107)) (.op (some 109) (.call 29 [(.t 106), (.t 108)]) (.op (some 105) (.mv (.t 109)) (.op (some 110) (.ext (.t 105) 0) (.op (some 111) (.ext (.t 105) 1) (.op (some 20) (.alloc [.int .i64 0, .int .i64 0, .int .i64 0, .lst true [], .lst true [], .int .i64 0]) (.op none (.store 6 (.t 20) (.t 110)) (.op (some 21) (.mv (.t 111)) (.nil))))))))))))
 (.seq (.ops (.op (some 112) (.fad 1 (.t 19)) (.op (some 113) (.load 1 false (.t 112)) (.op (some 114) (.bin .eql (.t 113) (.c (.int .i64 1))) (.op (some 115) (.mv (.t 114)) (.sc 119 true 115 116 118 (.op (some 116) (.fad 2 (.t 19)) (.op (some 117) (.load 1 false (.t 116)) (.op (some 118) (.bin .eql (.t 117) (.c (.int .i64 0))) (.nil)))) (.t 118) (.op (some 120) (.mv (.t 119)) (.sc 126 true 120 121 125 (.op (some 121) (.mv (.t 11)) (.op (some 122) (.fad 0 (.t 19)) (.op (some 123) (.load 1 false (.t 122)) (.op (some 124) (.call 30 [(.t 121), (.t 123)]) (.op (some 125) (.bin .eql (.t 124) (.c (.int .i64 0))) (.nil)))))) (.t 125) (.op (some 22) (.mv (.t 126)) (.nil))))))))))
 (.seq (.ops (.op (some 127) (.mv (.t 21)) (.op (some 128) (.mv (.t 22)) (.op (some 129) (.beq false (.t 127) (.t 128)) (.op (some 130) (.mv (.t 129)) (.sc 138 false 130 131 137 (.op (some 131) (.mv (.t 21)) (.op (some 132) (.mv (.t 131)) (.sc 137 true 132 133 136 (.op (some 133) (.load 6 true (.t 19)) (.op (some 134) (.load 6 true (.t 20)) (.op (some 135) (.call 31 [(.t 133), (.t 134)]) (.op (some 136) (.un .not (.t 135)) (.nil))))) (.t 136) (.nil)))) (.t 137) (.nil)))))))
 (.cond (.t 138) (.seq (.ops (.op (some 6) (.mv (.c (.bool false))) (.nil)))
 (.ret)) (.skip)))))))
 (.ops (.op (some 98) (.mv (.t 18)) (.op (some 99) (.bin .add (.t 98) (.c (.int .i64 1))) (.op (some 18) (.mv (.t 99)) (.nil))))))
def c6_2 : AC := b6_2
@[simp] theorem e6_2 {Γ : Tab} {V : Nat → Bool} {ρ : Type} (k : AX → St → Option ρ) (s : St) : eval Γ c6_2 V ρ k s = eval Γ b6_2 V ρ k s := rfl
def c6 : AF := AF.mk 149 [.t 6] (.seq (.ops (.op (some 5) (.rbox (.t 2)) (.op (some 6) (.mv (.c (.bool false))) (.nil))))
 (.seq (.ops (.op (some 23) (.call 9 []) (.op (some 7) (.mv (.t 23)) (.nil))))
 (.seq (.seq (.ops (.op (some 24) (.mv (.t 0)) (.op (some 25) (.mv (.t 1)) (.op (some 26) (.call 10 [(.t 24), (.t 25)]) (.nil)))))
 (.cond (.t 26) (.seq (.ops (.op (some 27) (.mv (.t 7)) (.op (some 6) (.mv (.t 27)) (.nil))))
 (.ret)) (.skip)))
 (.seq (.ops (.op (some 29) (.mv (.t 0)) (.op (some 30) (.mv (.t 1)) (.op (some 31) (.call 11 [(.t 29), (.t 30)]) (.op (some 28) (.mv (.t 31)) (.op (some 32) (.ext (.t 28) 0) (.op (some 33) (.ext (.t 28) 1) (.op (some 8) (.alloc [.lst true [], .int .i64 0, .int .i64 0]) (.op none (.store 3 (.t 8) (.t 32)) (.op (some 9) (.mv (.t 33)) (.nil)))))))))))
 (.seq (.ops (.op (some 35) (.load 3 true (.t 8)) (.op (some 36) (.mv (.t 9)) (.op (some 37) (.loadr 5 true (.t 5)) (.op (some 38) (.call 21 [(.t 35), (.t 36), (.t 37)]) (.op (some 34) (.mv (.t 38)) (.op (some 39) (.ext (.t 34) 0) (.op (some 40) (.ext (.t 34) 1) (.op (some 41) (.ext (.t 34) 2) (.op (some 10) (.alloc [.lst true [], .int .i64 0, .int .i64 0]) (.op none (.store 3 (.t 10) (.t 39)) (.op (some 11) (.mv (.t 40)) (.op (some 12) (.mv (.t 41)) (.nil))))))))))))))
 (.seq (.seq (.ops (.op (some 13) (.mv (.c (.int .i64 0))) (.nil)))
 (.block 0 (.loop [13] [(6, 6), (13, 17), (42, 87)] [] [(.exit 0, []), (.ret, [6])] c6_1)))
 (.seq (.seq (.ops (.op (some 88) (.fad 0 (.t 5)) (.op (some 89) (.loadr 1 false (.t 88)) (.op (some 90) (.bin .rem (.t 89) (.c (.int .u8 8))) (.op (some 91) (.bin .eql (.t 90) (.c (.int .u8 7))) (.nil))))))
 (.cond (.t 91) (.seq (.ops (.op (some 92) (.mv (.t 7)) (.op (some 6) (.mv (.t 92)) (.nil))))
 (.ret)) (.skip)))
 (.seq (.seq (.ops (.op (some 18) (.mv (.c (.int .i64 0))) (.nil)))
 (.block 2 (.loop [18] [(6, 6), (18, 22), (93, 138)] [] [(.exit 2, []), (.ret, [6])] c6_2)))
 (.seq (.ops (.op (some 139) (.mv (.t 7)) (.op (some 140) (.mv (.t 139)) (.sc 148 true 140 141 147 (.op (some 141) (.fad 0 (.t 10)) (.op (some 142) (.load 1 false (.t 141)) (.op (some 143) (.len false (.t 142)) (.op (some 144) (.fad 0 (.t 8)) (.op (some 145) (.load 1 false (.t 144)) (.op (some 146) (.len false (.t 145)) (.op (some 147) (.bin .leq (.t 143) (.t 146)) (.nil)))))))) (.t 147) (.op (some 6) (.mv (.t 148)) (.nil))))))
 (.ret))))))))))

theorem ok6 : okF Try.prog 6 c6 = true := by kernel_rfl

/-- catacomb/catacomblaw08.HoldGone -/
def b7_1 : AC := .seq (.seq (.ops (.op (some 48) (.mv (.t 16)) (.op (some 49) (.bin .geq (.t 48) (.c (.int .i64 0))) (.nil))))
 (.cond (.t 49) (.skip) (.exit 0)))
 (.seq (.block 1 (.seq (.ops (.op (some 52) (.mv (.t 9)) (.op (some 53) (.mv (.t 16)) (.op (some 54) (.iad 3 (.t 52) (.t 53)) (.op (some 55) (.fad 0 (.t 54)) (.op (some 56) (.load 1 false (.t 55)) (.op (some 57) (.mv (.t 10)) (.op (some 58) (.bin .eql (.t 56) (.t 57)) (.nil)))))))))
 (.cond (.t 58) (.seq (.ops (.op (some 60) (.load 3 true (.t 13)) (.op (some 61) (.mv (.t 14)) (.op (some 62) (.mv (.t 10)) (.op (some 63) (.mv (.t 9)) (.op (some 64) (.mv (.t 16)) (.op (some 65) (.iad 3 (.t 63) (.t 64)) (.op (some 66) (.fad 1 (.t 65)) (.op (some 67) (.load 1 false (.t 66)) (.op (some 68) (.callp 18 [(.t 60), (.t 61), (.t 62), (.t 67)]) (.op (some 59) (.mv (.t 68)) (.op (some 69) (.ext (.t 59) 0) (.op (some 70) (.ext (.t 59) 1) (.op (some 71) (.ext (.t 59) 2) (.op (some 17) (.alloc [.lst true [], .int .i64 0, .int .i64 0]) (.op none (.store 3 (.t 17) (.t 69)) (.op (some 18) (.mv (.t 70)) (.op (some 19) (.mv (.t 71)) (.nil)))))))))))))))))))
 (.seq (.seq (.ops (.op (some 72) (.mv (.t 19)) (.op (some 73) (.bin .neq (.t 72) (.c (.int .i64 0))) (.nil))))
 (.cond (.t 73) (.seq (.ops (.op (some 6) (.mv (.c (.bool false))) (.nil)))
 (.ret)) (.skip)))
 (.seq (.ops (.op (some 74) (.load 3 true (.t 17)) (.op none (.store 3 (.t 13) (.t 74)) (.nil))))
 (.ops (.op (some 75) (.mv (.t 18)) (.op (some 14) (.mv (.t 75)) (.nil))))))) (.skip))))
 (.ops (.op (some 50) (.mv (.t 16)) (.op (some 51) (.bin .sub (.t 50) (.c (.int .i64 1))) (.op (some 16) (.mv (.t 51)) (.nil))))))
def c7_1 : AC := b7_1
@[simp] theorem e7_1 {Γ : Tab} {V : Nat → Bool} {ρ : Type} (k : AX → St → Option ρ) (s : St) : eval Γ c7_1 V ρ k s = eval Γ b7_1 V ρ k s := rfl
def b7_2 : AC := .seq (.seq (.ops (.op (some 76) (.mv (.t 20)) (.op (some 77) (.mv (.t 9)) (.op (some 78) (.len false (.t 77)) (.op (some 79) (.bin .lss (.t 76) (.t 78)) (.nil))))))
 (.cond (.t 79) (.skip) (.exit 2)))
 (.seq (.block 3 (.seq (.ops (.op (some 82) (.mv (.t 9)) (.op (some 83) (.mv (.t 20)) (.op (some 84) (.iad 3 (.t 82) (.t 83)) (.op (some 85) (.fad 0 (.t 84)) (.op (some 86) (.load 1 false (.t 85)) (.op (some 87) (.mv (.t 10)) (.op (some 88) (.bin .neq (.t 86) (.t 87)) (.nil)))))))))
 (.cond (.t 88) (.ops (.op (some 89) (.mv (.t 15)) (.op (some 90) (.mv (.t 9)) (.op (some 91) (.mv (.t 20)) (.op (some 92) (.iad 3 (.t 90) (.t 91)) (.op (some 93) (.load 3 true (.t 92)) (.op (some 94) (.bslh 3 (.agg [.int .i64 0, .int .i64 0, .int .i64 0]) 1 [(0, (.t 93))]) (.op (some 95) (.app 3 24 (.t 89) (.t 94)) (.op (some 15) (.mv (.t 95)) (.nil)))))))))) (.skip))))
 (.ops (.op (some 80) (.mv (.t 20)) (.op (some 81) (.bin .add (.t 80) (.c (.int .i64 1))) (.op (some 20) (.mv (.t 81)) (.nil))))))
def c7_2 : AC := b7_2
@[simp] theorem e7_2 {Γ : Tab} {V : Nat → Bool} {ρ : Type} (k : AX → St → Option ρ) (s : St) : eval Γ c7_2 V ρ k s = eval Γ b7_2 V ρ k s := rfl
def c7 : AF := AF.mk 112 [.t 6] (.seq (.ops (.op (some 6) (.mv (.c (.bool false))) (.nil)))
 (.seq (.ops (.op (some 21) (.call 9 []) (.op (some 7) (.mv (.t 21)) (.nil))))
 (.seq (.seq (.ops (.op (some 22) (.mv (.t 0)) (.op (some 23) (.mv (.t 1)) (.op (some 24) (.call 10 [(.t 22), (.t 23)]) (.nil)))))
 (.cond (.t 24) (.seq (.ops (.op (some 25) (.mv (.t 7)) (.op (some 6) (.mv (.t 25)) (.nil))))
 (.ret)) (.skip)))
 (.seq (.ops (.op (some 27) (.mv (.t 0)) (.op (some 28) (.mv (.t 1)) (.op (some 29) (.call 11 [(.t 27), (.t 28)]) (.op (some 26) (.mv (.t 29)) (.op (some 30) (.ext (.t 26) 0) (.op (some 31) (.ext (.t 26) 1) (.op (some 8) (.alloc [.lst true [], .int .i64 0, .int .i64 0]) (.op none (.store 3 (.t 8) (.t 30)) (.op (some 9) (.mv (.t 31)) (.nil)))))))))))
 (.seq (.ops (.op (some 32) (.mv (.t 2)) (.op (some 33) (.conv .i64 (.t 32)) (.op (some 34) (.bin .rem (.t 33) (.c (.int .i64 17))) (.op (some 10) (.mv (.t 34)) (.nil))))))
 (.seq (.ops (.op (some 36) (.load 3 true (.t 8)) (.op (some 37) (.mv (.t 9)) (.op (some 38) (.mv (.t 10)) (.op (some 39) (.call 32 [(.t 36), (.t 37), (.t 38)]) (.op (some 35) (.mv (.t 39)) (.op (some 40) (.ext (.t 35) 0) (.op (some 41) (.ext (.t 35) 1) (.op (some 11) (.alloc [.lst true [], .int .i64 0, .int .i64 0]) (.op none (.store 3 (.t 11) (.t 40)) (.op (some 12) (.mv (.t 41)) (.nil))))))))))))
 (.seq (.ops (.op (some 42) (.load 3 true (.t 8)) (.op (some 13) (.alloc [.lst true [], .int .i64 0, .int .i64 0]) (.op none (.store 3 (.t 13) (.t 42)) (.nil)))))
 (.seq (.ops (.op (some 43) (.mv (.t 9)) (.op (some 14) (.mv (.t 43)) (.nil))))
 (.seq (.ops (.op (some 44) (.bslo 3 (.agg [.int .i64 0, .int .i64 0, .int .i64 0]) 0 []) (.op (some 15) (.mv (.t 44)) (.nil))))
 (.seq (.seq (.ops (.op (some 45) (.mv (.t 9)) (.op (some 46) (.len false (.t 45)) (.op (some 47) (.bin .sub (.t 46) (.c (.int .i64 1))) (.op (some 16) (.mv (.t 47)) (.nil))))))
 (.block 0 (.loop [14, 16] [(6, 6), (14, 14), (16, 19), (48, 75)] [] [(.exit 0, [14]), (.ret, [6])] c7_1)))
 (.seq (.seq (.ops (.op (some 20) (.mv (.c (.int .i64 0))) (.nil)))
 (.block 2 (.loop [15, 20] [(15, 15), (20, 20), (76, 95)] [(15, 3)] [(.exit 2, [15])] c7_2)))
 (.seq (.ops (.op (some 96) (.mv (.t 7)) (.op (some 97) (.mv (.t 96)) (.sc 101 true 97 98 100 (.op (some 98) (.mv (.t 12)) (.op (some 99) (.mv (.t 15)) (.op (some 100) (.call 16 [(.t 98), (.t 99)]) (.nil)))) (.t 100) (.op (some 102) (.mv (.t 101)) (.sc 106 true 102 103 105 (.op (some 103) (.mv (.t 14)) (.op (some 104) (.mv (.t 12)) (.op (some 105) (.call 16 [(.t 103), (.t 104)]) (.nil)))) (.t 105) (.op (some 107) (.mv (.t 106)) (.sc 111 true 107 108 110 (.op (some 108) (.load 3 true (.t 11)) (.op (some 109) (.load 3 true (.t 13)) (.op (some 110) (.call 19 [(.t 108), (.t 109)]) (.nil)))) (.t 110) (.op (some 6) (.mv (.t 111)) (.nil))))))))))
 (.ret)))))))))))))

theorem ok7 : okF Try.prog 7 c7 = true := by kernel_rfl

/-- catacomb/catacomblaw08.HoldOrphans -/
def b8_1 : AC := .seq (.seq (.ops (.op (some 30) (.mv (.t 9)) (.op (some 31) (.mv (.t 8)) (.op (some 32) (.len false (.t 31)) (.op (some 33) (.bin .lss (.t 30) (.t 32)) (.nil))))))
 (.cond (.t 33) (.skip) (.exit 0)))
 (.seq (.block 1 (.seq (.ops (.op (some 37) (.load 3 true (.t 6)) (.op (some 38) (.mv (.t 8)) (.op (some 39) (.mv (.t 9)) (.op (some 40) (.iad 1 (.t 38) (.t 39)) (.op (some 41) (.load 1 false (.t 40)) (.op (some 42) (.callp 29 [(.t 37), (.t 41)]) (.op (some 36) (.mv (.t 42)) (.op (some 43) (.ext (.t 36) 0) (.op (some 44) (.ext (.t 36) 1) (.op (some 10) (.alloc [.int .i64 0, .int .i64 0, .int .i64 0, .lst true [], .lst true [], .int .i64 0]) (.op none (.store 6 (.t 10) (.t 43)) (.op (some 11) (.mv (.t 44)) (.nil))))))))))))))
 (.seq (.ops (.op (some 45) (.mv (.t 11)) (.op (some 46) (.un .not (.t 45)) (.op (some 47) (.mv (.t 46)) (.sc 51 false 47 48 50 (.op (some 48) (.fad 1 (.t 10)) (.op (some 49) (.load 1 false (.t 48)) (.op (some 50) (.bin .neq (.t 49) (.c (.int .i64 1))) (.nil)))) (.t 50) (.op (some 52) (.mv (.t 51)) (.sc 56 false 52 53 55 (.op (some 53) (.fad 2 (.t 10)) (.op (some 54) (.load 1 false (.t 53)) (.op (some 55) (.bin .neq (.t 54) (.c (.int .i64 0))) (.nil)))) (.t 55) (.op (some 57) (.mv (.t 56)) (.sc 65 false 57 58 64 (.op (some 58) (.mv (.t 7)) (.op (some 59) (.mv (.t 8)) (.op (some 60) (.mv (.t 9)) (.op (some 61) (.iad 1 (.t 59) (.t 60)) (.op (some 62) (.load 1 false (.t 61)) (.op (some 63) (.callp 30 [(.t 58), (.t 62)]) (.op (some 64) (.bin .eql (.t 63) (.c (.int .i64 0))) (.nil)))))))) (.t 64) (.op (some 66) (.mv (.t 65)) (.sc 81 false 66 67 80 (.op (some 67) (.mv (.t 9)) (.op (some 68) (.bin .gtr (.t 67) (.c (.int .i64 0))) (.op (some 69) (.mv (.t 68)) (.sc 80 true 69 70 79 (.op (some 70) (.mv (.t 8)) (.op (some 71) (.mv (.t 9)) (.op (some 72) (.bin .sub (.t 71) (.c (.int .i64 1))) (.op (some 73) (.iad 1 (.t 70) (.t 72)) (.op (some 74) (.load 1 false (.t 73)) (.op (some 75) (.mv (.t 8)) (.op (some 76) (.mv (.t 9)) (.op (some 77) (.iad 1 (.t 75) (.t 76)) (.op (some 78) (.load 1 false (.t 77)) (.op (some 79) (.bin .geq (.t 74) (.t 78)) (.nil))))))))))) (.t 79) (.nil))))) (.t 80) (.nil))))))))))))
 (.cond (.t 81) (.seq (.ops (.op (some 4) (.mv (.c (.bool false))) (.nil)))
 (.ret)) (.skip)))))
 (.ops (.op (some 34) (.mv (.t 9)) (.op (some 35) (.bin .add (.t 34) (.c (.int .i64 1))) (.op (some 9) (.mv (.t 35)) (.nil))))))
def c8_1 : AC := b8_1
@[simp] theorem e8_1 {Γ : Tab} {V : Nat → Bool} {ρ : Type} (k : AX → St → Option ρ) (s : St) : eval Γ c8_1 V ρ k s = eval Γ b8_1 V ρ k s := rfl
def b8_2 : AC := .seq (.seq (.ops (.op (some 84) (.mv (.t 14)) (.op (some 85) (.bin .lss (.t 84) (.c (.int .i64 16))) (.nil))))
 (.cond (.t 85) (.skip) (.exit 2)))
 (.seq (.block 3 (.seq (.ops (.op (some 89) (.load 3 true (.t 12)) (.op (some 90) (.mv (.t 13)) (.op (some 91) (.mv (.t 14)) (.op (some 92) (.call 32 [(.t 89), (.t 90), (.t 91)]) (.op (some 88) (.mv (.t 92)) (.op (some 93) (.ext (.t 88) 0) (.op (some 94) (.ext (.t 88) 1) (.op (some 15) (.alloc [.lst true [], .int .i64 0, .int .i64 0]) (.op none (.store 3 (.t 15) (.t 93)) (.op (some 16) (.mv (.t 94)) (.nil))))))))))))
 (.seq (.ops (.op (some 95) (.load 3 true (.t 15)) (.op none (.store 3 (.t 12) (.t 95)) (.nil))))
 (.ops (.op (some 96) (.mv (.t 16)) (.op (some 13) (.mv (.t 96)) (.nil)))))))
 (.ops (.op (some 86) (.mv (.t 14)) (.op (some 87) (.bin .add (.t 86) (.c (.int .i64 1))) (.op (some 14) (.mv (.t 87)) (.nil))))))
def c8_2 : AC := b8_2
@[simp] theorem e8_2 {Γ : Tab} {V : Nat → Bool} {ρ : Type} (k : AX → St → Option ρ) (s : St) : eval Γ c8_2 V ρ k s = eval Γ b8_2 V ρ k s := rfl
def c8 : AF := AF.mk 127 [.t 4] (.seq (.ops (.op (some 4) (.mv (.c (.bool false))) (.nil)))
 (.seq (.ops (.op (some 17) (.call 9 []) (.op (some 5) (.mv (.t 17)) (.nil))))
 (.seq (.seq (.ops (.op (some 18) (.mv (.t 0)) (.op (some 19) (.mv (.t 1)) (.op (some 20) (.call 10 [(.t 18), (.t 19)]) (.nil)))))
 (.cond (.t 20) (.seq (.ops (.op (some 21) (.mv (.t 5)) (.op (some 4) (.mv (.t 21)) (.nil))))
 (.ret)) (.skip)))
 (.seq (.ops (.op (some 23) (.mv (.t 0)) (.op (some 24) (.mv (.t 1)) (.op (some 25) (.call 11 [(.t 23), (.t 24)]) (.op (some 22) (.mv (.t 25)) (.op (some 26) (.ext (.t 22) 0) (.op (some 27) (.ext (.t 22) 1) (.op (some 6) (.alloc [.lst true [], .int .i64 0, .int .i64 0]) (.op none (.store 3 (.t 6) (.t 26)) (.op (some 7) (.mv (.t 27)) (.nil)))))))))))
 (.seq (.ops (.op (some 28) (.load 3 true (.t 6)) (.op (some 29) (.call 24 [(.t 28)]) (.op (some 8) (.mv (.t 29)) (.nil)))))
 (.seq (.seq (.ops (.op (some 9) (.mv (.c (.int .i64 0))) (.nil)))
 (.block 0 (.loop [9] [(4, 4), (9, 11), (30, 81)] [] [(.exit 0, []), (.ret, [4])] c8_1)))
 (.seq (.ops (.op (some 82) (.load 3 true (.t 6)) (.op (some 12) (.alloc [.lst true [], .int .i64 0, .int .i64 0]) (.op none (.store 3 (.t 12) (.t 82)) (.nil)))))
 (.seq (.ops (.op (some 83) (.mv (.t 7)) (.op (some 13) (.mv (.t 83)) (.nil))))
 (.seq (.seq (.ops (.op (some 14) (.mv (.c (.int .i64 0))) (.nil)))
 (.block 2 (.loop [13, 14] [(13, 16), (84, 96)] [] [(.exit 2, [13])] c8_2)))
 (.seq (.ops (.op (some 97) (.mv (.t 5)) (.op (some 98) (.mv (.t 97)) (.sc 102 true 98 99 101 (.op (some 99) (.mv (.t 13)) (.op (some 100) (.len false (.t 99)) (.op (some 101) (.bin .eql (.t 100) (.c (.int .i64 0))) (.nil)))) (.t 101) (.op (some 103) (.mv (.t 102)) (.sc 108 true 103 104 107 (.op (some 104) (.load 3 true (.t 12)) (.op (some 105) (.callp 24 [(.t 104)]) (.op (some 106) (.len false (.t 105)) (.op (some 107) (.bin .eql (.t 106) (.c (.int .i64 0))) (.nil))))) (.t 107) (.op (some 109) (.mv (.t 108)) (.sc 120 true 109 110 119 (.op (some 110) (.fad 0 (.t 12)) (.op (some 111) (.load 1 false (.t 110)) (.op (some 112) (.len false (.t 111)) (.op (some 113) (.fad 0 (.t 6)) (.op (some 114) (.load 1 false (.t 113)) (.op (some 115) (.len false (.t 114)) (.op (some 116) (.mv (.t 8)) (.op (some 117) (.len false (.t 116)) (.op (some 118) (.bin .sub (.t 115) (.t 117)) (.op (some 119) (.bin .eql (.t 112) (.t 118)) (.nil))))))))))) (.t 119) (.op (some 121) (.mv (.t 120)) (.sc 126 true 121 122 125 (.op (some 122) (.load 3 true (.t 12)) (.op (some 123) (.load 3 true (.t 6)) (.op (some 124) (.callp 33 [(.t 123), (.c (.lst true []))]) (.op (some 125) (.callp 19 [(.t 122), (.t 124)]) (.nil))))) (.t 125) (.op (some 4) (.mv (.t 126)) (.nil))))))))))))
 (.ret)))))))))))

theorem ok8 : okF Try.prog 8 c8 = true := by kernel_rfl

/-- catacomb/catacomblaw08.head -/
def c9 : AF := AF.mk 175 [.t 0] (.seq (.ops (.op (some 0) (.mv (.c (.bool false))) (.nil)))
 (.seq (.ops (.op (some 29) (.call 35 []) (.op (some 30) (.call 34 [(.t 29), (.c (.int .i64 1)), (.c (.str [102])), (.c (.int .i64 1))]) (.op (some 28) (.mv (.t 30)) (.op (some 31) (.ext (.t 28) 0) (.op (some 32) (.ext (.t 28) 1) (.op (some 33) (.ext (.t 28) 2) (.op (some 1) (.alloc [.lst true [], .int .i64 0, .int .i64 0]) (.op none (.store 3 (.t 1) (.t 31)) (.op (some 2) (.mv (.t 32)) (.op (some 3) (.mv (.t 33)) (.nil))))))))))))
 (.seq (.ops (.op (some 35) (.load 3 true (.t 1)) (.op (some 36) (.mv (.t 2)) (.op (some 37) (.call 13 [(.t 35), (.c (.lst true [])), (.c (.int .i64 3)), (.c (.int .i64 7)), (.t 36)]) (.op (some 34) (.mv (.t 37)) (.op (some 38) (.ext (.t 34) 0) (.op (some 39) (.ext (.t 34) 1) (.op (some 4) (.mv (.t 38)) (.op (some 5) (.mv (.t 39)) (.nil))))))))))
 (.seq (.ops (.op (some 41) (.load 3 true (.t 1)) (.op (some 42) (.mv (.t 4)) (.op (some 43) (.mv (.t 2)) (.op (some 44) (.call 13 [(.t 41), (.t 42), (.c (.int .i64 3)), (.c (.int .i64 7)), (.t 43)]) (.op (some 40) (.mv (.t 44)) (.op (some 45) (.ext (.t 40) 0) (.op (some 46) (.ext (.t 40) 1) (.op (some 6) (.mv (.t 45)) (.op (some 7) (.mv (.t 46)) (.nil)))))))))))
 (.seq (.ops (.op (some 48) (.load 3 true (.t 1)) (.op (some 49) (.mv (.t 4)) (.op (some 50) (.call 13 [(.t 48), (.t 49), (.c (.int .i64 3)), (.c (.int .i64 8)), (.c (.int .i64 1))]) (.op (some 47) (.mv (.t 50)) (.op (some 51) (.ext (.t 47) 0) (.op (some 52) (.ext (.t 47) 1) (.op (some 8) (.mv (.t 51)) (.op (some 9) (.mv (.t 52)) (.nil))))))))))
 (.seq (.ops (.op (some 54) (.load 3 true (.t 1)) (.op (some 55) (.mv (.t 4)) (.op (some 56) (.mv (.t 2)) (.op (some 57) (.call 13 [(.t 54), (.t 55), (.c (.int .i64 16)), (.c (.int .i64 8)), (.t 56)]) (.op (some 53) (.mv (.t 57)) (.op (some 58) (.ext (.t 53) 0) (.op (some 59) (.ext (.t 53) 1) (.op (some 10) (.mv (.t 58)) (.op (some 11) (.mv (.t 59)) (.nil)))))))))))
 (.seq (.ops (.op (some 61) (.load 3 true (.t 1)) (.op (some 62) (.mv (.t 4)) (.op (some 63) (.call 13 [(.t 61), (.t 62), (.c (.int .i64 3)), (.c (.int .i64 8)), (.c (.int .i64 9))]) (.op (some 60) (.mv (.t 63)) (.op (some 64) (.ext (.t 60) 0) (.op (some 65) (.ext (.t 60) 1) (.op (some 12) (.mv (.t 64)) (.op (some 13) (.mv (.t 65)) (.nil))))))))))
 (.seq (.ops (.op (some 67) (.load 3 true (.t 1)) (.op (some 68) (.call 36 [(.t 67), (.c (.int .i64 1)), (.c (.str [102]))]) (.op (some 66) (.mv (.t 68)) (.op (some 69) (.ext (.t 66) 0) (.op (some 70) (.ext (.t 66) 1) (.op (some 71) (.ext (.t 66) 2) (.op (some 14) (.alloc [.lst true [], .int .i64 0, .int .i64 0]) (.op none (.store 3 (.t 14) (.t 69)) (.op (some 15) (.mv (.t 70)) (.op (some 16) (.mv (.t 71)) (.nil))))))))))))
 (.seq (.ops (.op (some 73) (.load 3 true (.t 14)) (.op (some 74) (.mv (.t 4)) (.op (some 75) (.call 18 [(.t 73), (.t 74), (.c (.int .i64 3)), (.c (.int .i64 7))]) (.op (some 72) (.mv (.t 75)) (.op (some 76) (.ext (.t 72) 0) (.op (some 77) (.ext (.t 72) 1) (.op (some 78) (.ext (.t 72) 2) (.op (some 17) (.alloc [.lst true [], .int .i64 0, .int .i64 0]) (.op none (.store 3 (.t 17) (.t 76)) (.op (some 18) (.mv (.t 77)) (.op (some 19) (.mv (.t 78)) (.nil)))))))))))))
 (.seq (.ops (.op (some 80) (.load 3 true (.t 17)) (.op (some 81) (.mv (.t 18)) (.op (some 82) (.call 18 [(.t 80), (.t 81), (.c (.int .i64 3)), (.c (.int .i64 7))]) (.op (some 79) (.mv (.t 82)) (.op (some 83) (.ext (.t 79) 0) (.op (some 84) (.ext (.t 79) 1) (.op (some 85) (.ext (.t 79) 2) (.op (some 20) (.alloc [.lst true [], .int .i64 0, .int .i64 0]) (.op none (.store 3 (.t 20) (.t 83)) (.op (some 21) (.mv (.t 84)) (.op (some 22) (.mv (.t 85)) (.nil)))))))))))))
 (.seq (.ops (.op (some 87) (.mv (.t 4)) (.op (some 88) (.call 17 [(.t 87), (.c (.int .i64 3)), (.c (.int .i64 7))]) (.op (some 86) (.mv (.t 88)) (.op (some 89) (.ext (.t 86) 0) (.op (some 90) (.ext (.t 86) 1) (.op (some 23) (.mv (.t 89)) (.op (some 24) (.mv (.t 90)) (.nil)))))))))
 (.seq (.ops (.op (some 92) (.load 3 true (.t 17)) (.op (some 93) (.mv (.t 2)) (.op (some 94) (.call 29 [(.t 92), (.t 93)]) (.op (some 91) (.mv (.t 94)) (.op (some 95) (.ext (.t 91) 0) (.op (some 96) (.ext (.t 91) 1) (.op (some 25) (.alloc [.int .i64 0, .int .i64 0, .int .i64 0, .lst true [], .lst true [], .int .i64 0]) (.op none (.store 6 (.t 25) (.t 95)) (.op (some 26) (.mv (.t 96)) (.nil)))))))))))
 (.seq (.ops (.op (some 97) (.load 3 true (.t 14)) (.op (some 98) (.call 24 [(.t 97)]) (.op (some 27) (.mv (.t 98)) (.nil)))))
 (.seq (.ops (.op (some 99) (.mv (.t 5)) (.op (some 100) (.bin .eql (.t 99) (.c (.int .i64 0))) (.op (some 101) (.mv (.t 100)) (.sc 106 true 101 102 105 (.op (some 102) (.mv (.t 4)) (.op (some 103) (.build [.int .i64 0, .int .i64 0, .int .i64 0] [(0, 1, (.c (.int .i64 3))), (1, 1, (.c (.int .i64 7))), (2, 1, (.c (.int .i64 2)))]) (.op (some 104) (.bslh 3 (.agg [.int .i64 0, .int .i64 0, .int .i64 0]) 1 [(0, (.t 103))]) (.op (some 105) (.call 16 [(.t 102), (.t 104)]) (.nil))))) (.t 105) (.op (some 107) (.mv (.t 106)) (.sc 110 true 107 108 109 (.op (some 108) (.mv (.t 7)) (.op (some 109) (.bin .eql (.t 108) (.c (.int .i64 71))) (.nil))) (.t 109) (.op (some 111) (.mv (.t 110)) (.sc 114 true 111 112 113 (.op (some 112) (.mv (.t 9)) (.op (some 113) (.bin .eql (.t 112) (.c (.int .i64 72))) (.nil))) (.t 113) (.op (some 115) (.mv (.t 114)) (.sc 118 true 115 116 117 (.op (some 116) (.mv (.t 11)) (.op (some 117) (.bin .eql (.t 116) (.c (.int .i64 1))) (.nil))) (.t 117) (.op (some 119) (.mv (.t 118)) (.sc 122 true 119 120 121 (.op (some 120) (.mv (.t 13)) (.op (some 121) (.bin .eql (.t 120) (.c (.int .i64 70))) (.nil))) (.t 121) (.op (some 123) (.mv (.t 122)) (.sc 126 true 123 124 125 (.op (some 124) (.mv (.t 19)) (.op (some 125) (.bin .eql (.t 124) (.c (.int .i64 0))) (.nil))) (.t 125) (.op (some 127) (.mv (.t 126)) (.sc 131 true 127 128 130 (.op (some 128) (.mv (.t 18)) (.op (some 129) (.len false (.t 128)) (.op (some 130) (.bin .eql (.t 129) (.c (.int .i64 0))) (.nil)))) (.t 130) (.op (some 132) (.mv (.t 131)) (.sc 135 true 132 133 134 (.op (some 133) (.mv (.t 26)) (.op (some 134) (.un .not (.t 133)) (.nil))) (.t 134) (.op (some 136) (.mv (.t 135)) (.sc 139 true 136 137 138 (.op (some 137) (.mv (.t 22)) (.op (some 138) (.bin .eql (.t 137) (.c (.int .i64 80))) (.nil))) (.t 138) (.op (some 140) (.mv (.t 139)) (.sc 143 true 140 141 142 (.op (some 141) (.mv (.t 23)) (.op (some 142) (.bin .eql (.t 141) (.c (.int .i64 2))) (.nil))) (.t 142) (.op (some 144) (.mv (.t 143)) (.sc 147 true 144 145 146 (.op (some 145) (.mv (.t 24)) (.op (some 146) (.bin .eql (.t 145) (.c (.int .i64 0))) (.nil))) (.t 146) (.op (some 148) (.mv (.t 147)) (.sc 152 true 148 149 151 (.op (some 149) (.mv (.t 27)) (.op (some 150) (.len false (.t 149)) (.op (some 151) (.bin .eql (.t 150) (.c (.int .i64 1))) (.nil)))) (.t 151) (.op (some 153) (.mv (.t 152)) (.sc 158 true 153 154 157 (.op (some 154) (.mv (.t 27)) (.op (some 155) (.iad 1 (.t 154) (.c (.int .i64 0))) (.op (some 156) (.load 1 false (.t 155)) (.op (some 157) (.bin .eql (.t 156) (.c (.int .i64 2))) (.nil))))) (.t 157) (.op (some 159) (.mv (.t 158)) (.sc 163 true 159 160 162 (.op (some 160) (.load 3 true (.t 14)) (.op (some 161) (.mv (.t 4)) (.op (some 162) (.call 26 [(.t 160), (.t 161)]) (.nil)))) (.t 162) (.op (some 164) (.mv (.t 163)) (.sc 168 true 164 165 167 (.op (some 165) (.load 3 true (.t 14)) (.op (some 166) (.call 26 [(.t 165), (.c (.lst true []))]) (.op (some 167) (.un .not (.t 166)) (.nil)))) (.t 167) (.op (some 169) (.mv (.t 168)) (.sc 174 true 169 170 173 (.op (some 170) (.fad 0 (.t 17)) (.op (some 171) (.load 1 false (.t 170)) (.op (some 172) (.len false (.t 171)) (.op (some 173) (.bin .eql (.t 172) (.c (.int .i64 1))) (.nil))))) (.t 173) (.op (some 0) (.mv (.t 174)) (.nil)))))))))))))))))))))))))))))))))))))
 (.ret)))))))))))))))

theorem ok9 : okF Try.prog 9 c9 = true := by kernel_rfl

/-- catacomb/catacomblaw08.great -/
def c10 : AF := AF.mk 12 [.t 4] (.seq (.ops (.op (some 4) (.mv (.c (.bool false))) (.nil)))
 (.seq (.ops (.op (some 5) (.mv (.t 0)) (.op (some 6) (.call 37 [(.t 5)]) (.op (some 7) (.mv (.t 6)) (.sc 11 false 7 8 10 (.op (some 8) (.mv (.t 1)) (.op (some 9) (.len false (.t 8)) (.op (some 10) (.bin .gtr (.t 9) (.c (.int .i64 80))) (.nil)))) (.t 10) (.op (some 4) (.mv (.t 11)) (.nil)))))))
 (.ret)))

theorem ok10 : okF Try.prog 10 c10 = true := by kernel_rfl

/-- catacomb/catacomblaw08.Made -/
def b11_1 : AC := .seq (.seq (.ops (.op (some 15) (.mv (.t 8)) (.op (some 16) (.mv (.t 1)) (.op (some 17) (.len false (.t 16)) (.op (some 18) (.bin .lss (.t 15) (.t 17)) (.nil))))))
 (.cond (.t 18) (.skip) (.exit 0)))
 (.seq (.block 1 (.seq (.ops (.op (some 22) (.load 3 true (.t 6)) (.op (some 23) (.mv (.t 7)) (.op (some 24) (.mv (.t 1)) (.op (some 25) (.mv (.t 8)) (.op (some 26) (.iad 5 (.t 24) (.t 25)) (.op (some 27) (.load 5 true (.t 26)) (.op (some 28) (.callp 22 [(.t 22), (.t 23), (.t 27)]) (.op (some 21) (.mv (.t 28)) (.op (some 29) (.ext (.t 21) 0) (.op (some 30) (.ext (.t 21) 1) (.op (some 31) (.ext (.t 21) 2) (.op (some 9) (.alloc [.lst true [], .int .i64 0, .int .i64 0]) (.op none (.store 3 (.t 9) (.t 29)) (.op (some 10) (.mv (.t 30)) (.op (some 11) (.mv (.t 31)) (.nil)))))))))))))))))
 (.seq (.ops (.op (some 32) (.load 3 true (.t 9)) (.op none (.store 3 (.t 6) (.t 32)) (.nil))))
 (.ops (.op (some 33) (.mv (.t 10)) (.op (some 7) (.mv (.t 33)) (.nil)))))))
 (.ops (.op (some 19) (.mv (.t 8)) (.op (some 20) (.bin .add (.t 19) (.c (.int .i64 1))) (.op (some 8) (.mv (.t 20)) (.nil))))))
def c11_1 : AC := b11_1
@[simp] theorem e11_1 {Γ : Tab} {V : Nat → Bool} {ρ : Type} (k : AX → St → Option ρ) (s : St) : eval Γ c11_1 V ρ k s = eval Γ b11_1 V ρ k s := rfl
def c11 : AF := AF.mk 36 [.cell 4 3 true, .t 5] (.seq (.ops (.op (some 4) (.alloc [.lst true [], .int .i64 0, .int .i64 0]) (.op (some 5) (.mv (.c (.lst true []))) (.nil))))
 (.seq (.ops (.op (some 12) (.mv (.t 0)) (.op (some 13) (.call 20 [(.t 12)]) (.op (some 6) (.alloc [.lst true [], .int .i64 0, .int .i64 0]) (.op none (.store 3 (.t 6) (.t 13)) (.nil))))))
 (.seq (.ops (.op (some 14) (.bslh 3 (.agg [.int .i64 0, .int .i64 0, .int .i64 0]) 0 []) (.op (some 7) (.mv (.t 14)) (.nil))))
 (.seq (.seq (.ops (.op (some 8) (.mv (.c (.int .i64 0))) (.nil)))
 (.block 0 (.loop [7, 8] [(7, 11), (15, 33)] [] [(.exit 0, [7])] c11_1)))
 (.seq (.ops (.op (some 34) (.load 3 true (.t 6)) (.op (some 35) (.mv (.t 7)) (.op none (.store 3 (.t 4) (.t 34)) (.op (some 5) (.mv (.t 35)) (.nil))))))
 (.ret))))))

theorem ok11 : okF Try.prog 11 c11 = true := by kernel_rfl

/-- catacomb/catacomblaw07.Node -/
def c12 : AF := AF.mk 26 [.t 4] (.seq (.ops (.op (some 2) (.rbox (.t 0)) (.op (some 4) (.mv (.c (.int .i64 0))) (.nil))))
 (.seq (.ops (.op (some 6) (.mv (.t 1)) (.op (some 7) (.conv .i64 (.t 6)) (.op (some 8) (.fad 0 (.t 2)) (.op (some 9) (.loadr 1 false (.t 8)) (.op (some 10) (.len false (.t 9)) (.op (some 11) (.bin .add (.t 10) (.c (.int .i64 1))) (.op (some 12) (.bin .rem (.t 7) (.t 11)) (.op (some 5) (.mv (.t 12)) (.nil))))))))))
 (.seq (.seq (.ops (.op (some 13) (.mv (.t 5)) (.op (some 14) (.fad 0 (.t 2)) (.op (some 15) (.loadr 1 false (.t 14)) (.op (some 16) (.len false (.t 15)) (.op (some 17) (.bin .lss (.t 13) (.t 16)) (.nil)))))))
 (.cond (.t 17) (.seq (.ops (.op (some 18) (.fad 0 (.t 2)) (.op (some 19) (.loadr 1 false (.t 18)) (.op (some 20) (.mv (.t 5)) (.op (some 21) (.iad 6 (.t 19) (.t 20)) (.op (some 22) (.fad 0 (.t 21)) (.op (some 23) (.load 1 false (.t 22)) (.op (some 4) (.mv (.t 23)) (.nil)))))))))
 (.ret)) (.skip)))
 (.seq (.ops (.op (some 24) (.fad 1 (.t 2)) (.op (some 25) (.loadr 1 false (.t 24)) (.op (some 4) (.mv (.t 25)) (.nil)))))
 (.ret)))))

theorem ok12 : okF Try.prog 12 c12 = true := by kernel_rfl

/-- catacomb/hold.Open -/
def c13 : AF := AF.mk 68 [.t 10, .t 11] (.seq (.ops (.op (some 5) (.rbox (.t 0)) (.op (some 10) (.mv (.c (.lst true []))) (.op (some 11) (.mv (.c (.int .i64 0))) (.nil)))))
 (.seq (.ops (.op (some 17) (.mv (.t 2)) (.op (some 18) (.mv (.t 3)) (.op (some 19) (.build [.int .i64 0, .int .i64 0] [(0, 1, (.t 17)), (1, 1, (.t 18))]) (.op (some 12) (.alloc [.int .i64 0, .int .i64 0]) (.op none (.store 2 (.t 12) (.t 19)) (.nil)))))))
 (.seq (.seq (.ops (.op (some 20) (.load 2 true (.t 12)) (.op (some 21) (.call 38 [(.t 20)]) (.op (some 22) (.un .not (.t 21)) (.nil)))))
 (.cond (.t 22) (.seq (.ops (.op (some 23) (.mv (.t 1)) (.op (some 10) (.mv (.t 23)) (.op (some 11) (.mv (.c (.int .i64 1))) (.nil)))))
 (.ret)) (.skip)))
 (.seq (.ops (.op (some 25) (.loadr 3 true (.t 5)) (.op (some 26) (.mv (.t 4)) (.op (some 27) (.call 39 [(.t 25), (.t 26)]) (.op (some 24) (.mv (.t 27)) (.op (some 28) (.ext (.t 24) 0) (.op (some 29) (.ext (.t 24) 1) (.op (some 13) (.alloc [.int .i64 0, .int .i64 0, .int .i64 0, .lst true [], .lst true [], .int .i64 0]) (.op none (.store 6 (.t 13) (.t 28)) (.op (some 14) (.mv (.t 29)) (.nil)))))))))))
 (.seq (.ops (.op (some 31) (.mv (.t 1)) (.op (some 32) (.load 2 true (.t 12)) (.op (some 33) (.load 2 true (.t 12)) (.op (some 34) (.mkf (.func 41) [(.t 33)] []) (.op (some 35) (.call 40 [(.t 31), (.t 32), (.t 34)]) (.op (some 30) (.mv (.t 35)) (.op (some 36) (.ext (.t 30) 0) (.op (some 37) (.ext (.t 30) 1) (.op (some 15) (.mv (.t 36)) (.op (some 16) (.mv (.t 37)) (.nil))))))))))))
 (.seq (.block 0 (.seq (.ops (.op (some 39) (.mv (.t 14)) (.op (some 40) (.un .not (.t 39)) (.op (some 41) (.mv (.t 40)) (.sc 44 false 41 42 43 (.op (some 42) (.load 6 true (.t 13)) (.op (some 43) (.call 42 [(.t 42)]) (.nil))) (.t 43) (.op (some 38) (.mv (.t 44)) (.nil)))))))
 (.cond (.t 38) (.seq (.ops (.op (some 45) (.mv (.t 1)) (.op (some 10) (.mv (.t 45)) (.op (some 11) (.mv (.c (.int .i64 70))) (.nil)))))
 (.ret)) (.seq (.ops (.op (some 47) (.fad 1 (.t 13)) (.op (some 48) (.load 1 false (.t 47)) (.op (some 49) (.bin .eql (.t 48) (.c (.int .i64 2))) (.op (some 46) (.mv (.t 49)) (.nil))))))
 (.cond (.t 46) (.seq (.ops (.op (some 50) (.mv (.t 1)) (.op (some 10) (.mv (.t 50)) (.op (some 11) (.mv (.c (.int .i64 72))) (.nil)))))
 (.ret)) (.seq (.ops (.op (some 52) (.mv (.t 16)) (.op (some 51) (.mv (.t 52)) (.nil))))
 (.cond (.t 51) (.seq (.ops (.op (some 53) (.mv (.t 1)) (.op (some 10) (.mv (.t 53)) (.op (some 11) (.mv (.c (.int .i64 71))) (.nil)))))
 (.ret)) (.seq (.ops (.op (some 55) (.mv (.t 1)) (.op (some 56) (.len false (.t 55)) (.op (some 57) (.bin .geq (.t 56) (.c (.int .i64 64))) (.op (some 54) (.mv (.t 57)) (.nil))))))
 (.cond (.t 54) (.seq (.ops (.op (some 58) (.mv (.t 1)) (.op (some 10) (.mv (.t 58)) (.op (some 11) (.mv (.c (.int .i64 76))) (.nil)))))
 (.ret)) (.skip))))))))))
 (.seq (.ops (.op (some 59) (.mv (.t 1)) (.op (some 60) (.call 44 [(.t 59)]) (.op (some 61) (.mv (.t 15)) (.op (some 62) (.mv (.t 2)) (.op (some 63) (.mv (.t 3)) (.op (some 64) (.mv (.t 4)) (.op (some 65) (.build [.int .i64 0, .int .i64 0, .int .i64 0] [(0, 1, (.t 62)), (1, 1, (.t 63)), (2, 1, (.t 64))]) (.op (some 66) (.bslh 3 (.agg [.int .i64 0, .int .i64 0, .int .i64 0]) 1 [(0, (.t 65))]) (.op (some 67) (.call 43 [(.t 60), (.t 61), (.t 66)]) (.op (some 10) (.mv (.t 67)) (.op (some 11) (.mv (.c (.int .i64 0))) (.nil)))))))))))))
 (.ret))))))))

theorem ok13 : okF Try.prog 13 c13 = true := by kernel_rfl

/-- catacomb/catacomblaw08.who -/
def c14 : AF := AF.mk 13 [.t 2] (.seq (.ops (.op (some 1) (.rbox (.t 0)) (.op (some 2) (.mv (.c (.int .i64 0))) (.nil))))
 (.seq (.ops (.op (some 3) (.fad 1 (.t 1)) (.op (some 4) (.loadr 1 false (.t 3)) (.op (some 5) (.conv .i64 (.t 4)) (.op (some 6) (.bin .rem (.t 5) (.c (.int .i64 5))) (.op (some 7) (.fad 1 (.t 1)) (.op (some 8) (.loadr 1 false (.t 7)) (.op (some 9) (.conv .i64 (.t 8)) (.op (some 10) (.bin .quo (.t 9) (.c (.int .i64 250))) (.op (some 11) (.bin .mul (.c (.int .i64 15)) (.t 10)) (.op (some 12) (.bin .add (.t 6) (.t 11)) (.op (some 2) (.mv (.t 12)) (.nil)))))))))))))
 (.ret)))

theorem ok14 : okF Try.prog 14 c14 = true := by kernel_rfl

/-- catacomb/catacomblaw08.handle -/
def c15 : AF := AF.mk 13 [.t 2] (.seq (.ops (.op (some 1) (.rbox (.t 0)) (.op (some 2) (.mv (.c (.int .i64 0))) (.nil))))
 (.seq (.ops (.op (some 3) (.fad 2 (.t 1)) (.op (some 4) (.loadr 1 false (.t 3)) (.op (some 5) (.conv .i64 (.t 4)) (.op (some 6) (.bin .rem (.t 5) (.c (.int .i64 6))) (.op (some 7) (.fad 2 (.t 1)) (.op (some 8) (.loadr 1 false (.t 7)) (.op (some 9) (.conv .i64 (.t 8)) (.op (some 10) (.bin .quo (.t 9) (.c (.int .i64 240))) (.op (some 11) (.bin .mul (.c (.int .i64 95)) (.t 10)) (.op (some 12) (.bin .add (.t 6) (.t 11)) (.op (some 2) (.mv (.t 12)) (.nil)))))))))))))
 (.ret)))

theorem ok15 : okF Try.prog 15 c15 = true := by kernel_rfl

/-- catacomb/catacombref08.Same -/
def b16_1 : AC := .seq (.seq (.ops (.op (some 11) (.mv (.t 5)) (.op (some 12) (.mv (.t 0)) (.op (some 13) (.len false (.t 12)) (.op (some 14) (.bin .lss (.t 11) (.t 13)) (.nil))))))
 (.cond (.t 14) (.skip) (.exit 0)))
 (.seq (.block 1 (.seq (.ops (.op (some 17) (.mv (.t 0)) (.op (some 18) (.mv (.t 5)) (.op (some 19) (.iad 3 (.t 17) (.t 18)) (.op (some 20) (.load 3 true (.t 19)) (.op (some 21) (.mv (.t 1)) (.op (some 22) (.mv (.t 5)) (.op (some 23) (.iad 3 (.t 21) (.t 22)) (.op (some 24) (.load 3 true (.t 23)) (.op (some 25) (.seq true [0, 0, 0] (.t 20) (.t 24)) (.nil)))))))))))
 (.cond (.t 25) (.seq (.ops (.op (some 4) (.mv (.c (.bool false))) (.nil)))
 (.ret)) (.skip))))
 (.ops (.op (some 15) (.mv (.t 5)) (.op (some 16) (.bin .add (.t 15) (.c (.int .i64 1))) (.op (some 5) (.mv (.t 16)) (.nil))))))
def c16_1 : AC := b16_1
@[simp] theorem e16_1 {Γ : Tab} {V : Nat → Bool} {ρ : Type} (k : AX → St → Option ρ) (s : St) : eval Γ c16_1 V ρ k s = eval Γ b16_1 V ρ k s := rfl
def c16 : AF := AF.mk 26 [.t 4] (.seq (.ops (.op (some 4) (.mv (.c (.bool false))) (.nil)))
 (.seq (.seq (.ops (.op (some 6) (.mv (.t 0)) (.op (some 7) (.len false (.t 6)) (.op (some 8) (.mv (.t 1)) (.op (some 9) (.len false (.t 8)) (.op (some 10) (.bin .neq (.t 7) (.t 9)) (.nil)))))))
 (.cond (.t 10) (.seq (.ops (.op (some 4) (.mv (.c (.bool false))) (.nil)))
 (.ret)) (.skip)))
 (.seq (.seq (.ops (.op (some 5) (.mv (.c (.int .i64 0))) (.nil)))
 (.block 0 (.loop [5] [(4, 5), (11, 25)] [] [(.exit 0, []), (.ret, [4])] c16_1)))
 (.seq (.ops (.op (some 4) (.mv (.c (.bool true))) (.nil)))
 (.ret)))))

theorem ok16 : okF Try.prog 16 c16 = true := by kernel_rfl

/-- catacomb/hold.Ino -/
def c17 : AF := AF.mk 22 [.t 6, .t 7] (.seq (.ops (.op (some 6) (.mv (.c (.int .i64 0))) (.op (some 7) (.mv (.c (.int .i64 0))) (.nil))))
 (.seq (.ops (.op (some 9) (.mv (.t 0)) (.op (some 10) (.mv (.t 1)) (.op (some 11) (.mv (.t 2)) (.op (some 12) (.build [.int .i64 0, .int .i64 0] [(0, 1, (.t 10)), (1, 1, (.t 11))]) (.op (some 13) (.mkf (.func 46) [(.t 12)] []) (.op (some 14) (.call 45 [(.t 9), (.t 13)]) (.op (some 8) (.mv (.t 14)) (.nil)))))))))
 (.seq (.seq (.ops (.op (some 15) (.mv (.t 8)) (.op (some 16) (.bin .lss (.t 15) (.c (.int .i64 0))) (.nil))))
 (.cond (.t 16) (.seq (.ops (.op (some 6) (.mv (.c (.int .i64 0))) (.op (some 7) (.mv (.c (.int .i64 80))) (.nil))))
 (.ret)) (.skip)))
 (.seq (.ops (.op (some 17) (.mv (.t 0)) (.op (some 18) (.mv (.t 8)) (.op (some 19) (.iad 3 (.t 17) (.t 18)) (.op (some 20) (.fad 2 (.t 19)) (.op (some 21) (.load 1 false (.t 20)) (.op (some 6) (.mv (.t 21)) (.op (some 7) (.mv (.c (.int .i64 0))) (.nil)))))))))
 (.ret)))))

theorem ok17 : okF Try.prog 17 c17 = true := by kernel_rfl

/-- catacomb/hold.Close -/
def c18 : AF := AF.mk 62 [.cell 8 3 true, .t 9, .t 10] (.seq (.ops (.op (some 4) (.box (.t 0)) (.op (some 8) (.alloc [.lst true [], .int .i64 0, .int .i64 0]) (.op (some 9) (.mv (.c (.lst true []))) (.op (some 10) (.mv (.c (.int .i64 0))) (.nil))))))
 (.seq (.ops (.op (some 16) (.mv (.t 1)) (.op (some 17) (.mv (.t 2)) (.op (some 18) (.mv (.t 3)) (.op (some 19) (.build [.int .i64 0, .int .i64 0] [(0, 1, (.t 17)), (1, 1, (.t 18))]) (.op (some 20) (.mkf (.func 46) [(.t 19)] []) (.op (some 21) (.call 45 [(.t 16), (.t 20)]) (.op (some 11) (.mv (.t 21)) (.nil)))))))))
 (.seq (.seq (.ops (.op (some 22) (.mv (.t 11)) (.op (some 23) (.bin .lss (.t 22) (.c (.int .i64 0))) (.nil))))
 (.cond (.t 23) (.seq (.ops (.op (some 24) (.load 3 true (.t 4)) (.op (some 25) (.mv (.t 1)) (.op none (.store 3 (.t 8) (.t 24)) (.op (some 9) (.mv (.t 25)) (.op (some 10) (.mv (.c (.int .i64 80))) (.nil)))))))
 (.ret)) (.skip)))
 (.seq (.ops (.op (some 26) (.mv (.t 1)) (.op (some 27) (.mv (.t 11)) (.op (some 28) (.iad 3 (.t 26) (.t 27)) (.op (some 29) (.fad 2 (.t 28)) (.op (some 30) (.load 1 false (.t 29)) (.op (some 12) (.mv (.t 30)) (.nil))))))))
 (.seq (.ops (.op (some 31) (.mv (.t 1)) (.op (some 32) (.call 44 [(.t 31)]) (.op (some 33) (.mv (.t 11)) (.op (some 34) (.mv (.t 11)) (.op (some 35) (.bin .add (.t 34) (.c (.int .i64 1))) (.op (some 36) (.call 47 [(.t 32), (.t 33), (.t 35)]) (.op (some 13) (.mv (.t 36)) (.nil)))))))))
 (.seq (.seq (.ops (.op (some 38) (.load 3 true (.t 4)) (.op (some 39) (.mv (.t 12)) (.op (some 40) (.call 39 [(.t 38), (.t 39)]) (.op (some 37) (.mv (.t 40)) (.op (some 41) (.ext (.t 37) 0) (.op (some 42) (.ext (.t 37) 1) (.op (some 14) (.alloc [.int .i64 0, .int .i64 0, .int .i64 0, .lst true [], .lst true [], .int .i64 0]) (.op none (.store 6 (.t 14) (.t 41)) (.op (some 15) (.mv (.t 42)) (.nil)))))))))))
 (.seq (.ops (.op (some 43) (.mv (.t 15)) (.op (some 44) (.mv (.t 43)) (.sc 47 true 44 45 46 (.op (some 45) (.load 6 true (.t 14)) (.op (some 46) (.call 42 [(.t 45)]) (.nil))) (.t 46) (.op (some 48) (.mv (.t 47)) (.sc 53 true 48 49 52 (.op (some 49) (.mv (.t 13)) (.op (some 50) (.mv (.t 12)) (.op (some 51) (.call 48 [(.t 49), (.t 50)]) (.op (some 52) (.un .not (.t 51)) (.nil))))) (.t 52) (.nil)))))))
 (.cond (.t 53) (.ops (.op (some 55) (.load 3 true (.t 4)) (.op (some 56) (.mv (.t 12)) (.op (some 57) (.call 49 [(.t 55), (.t 56)]) (.op (some 54) (.mv (.t 57)) (.op (some 58) (.ext (.t 54) 0) (.op (some 59) (.ext (.t 54) 1) (.op none (.store 3 (.t 4) (.t 58)) (.nil))))))))) (.skip))))
 (.seq (.ops (.op (some 60) (.load 3 true (.t 4)) (.op (some 61) (.mv (.t 13)) (.op none (.store 3 (.t 8) (.t 60)) (.op (some 9) (.mv (.t 61)) (.op (some 10) (.mv (.c (.int .i64 0))) (.nil)))))))
 (.ret))))))))

theorem ok18 : okF Try.prog 18 c18 = true := by kernel_rfl

/-- catacomb/catacombref07.Same -/
def c19 : AF := AF.mk 24 [.t 4] (.seq (.ops (.op (some 2) (.rbox (.t 0)) (.op (some 3) (.rbox (.t 1)) (.op (some 4) (.mv (.c (.bool false))) (.nil)))))
 (.seq (.ops (.op (some 5) (.fad 1 (.t 2)) (.op (some 6) (.loadr 1 false (.t 5)) (.op (some 7) (.fad 1 (.t 3)) (.op (some 8) (.loadr 1 false (.t 7)) (.op (some 9) (.bin .eql (.t 6) (.t 8)) (.op (some 10) (.mv (.t 9)) (.sc 16 true 10 11 15 (.op (some 11) (.fad 2 (.t 2)) (.op (some 12) (.loadr 1 false (.t 11)) (.op (some 13) (.fad 2 (.t 3)) (.op (some 14) (.loadr 1 false (.t 13)) (.op (some 15) (.bin .eql (.t 12) (.t 14)) (.nil)))))) (.t 15) (.op (some 17) (.mv (.t 16)) (.sc 23 true 17 18 22 (.op (some 18) (.fad 0 (.t 2)) (.op (some 19) (.loadr 1 false (.t 18)) (.op (some 20) (.fad 0 (.t 3)) (.op (some 21) (.loadr 1 false (.t 20)) (.op (some 22) (.call 50 [(.t 19), (.t 21)]) (.nil)))))) (.t 22) (.op (some 4) (.mv (.t 23)) (.nil))))))))))))
 (.ret)))

theorem ok19 : okF Try.prog 19 c19 = true := by kernel_rfl

/-- catacomb/catacomblaw08.Start -/
def c20 : AF := AF.mk 6 [.cell 2 3 true] (.seq (.ops (.op (some 2) (.alloc [.lst true [], .int .i64 0, .int .i64 0]) (.nil)))
 (.seq (.ops (.op (some 3) (.mv (.t 0)) (.op (some 4) (.call 51 [(.t 3)]) (.op (some 5) (.call 33 [(.t 4), (.c (.lst true []))]) (.op none (.store 3 (.t 2) (.t 5)) (.nil))))))
 (.ret)))

theorem ok20 : okF Try.prog 20 c20 = true := by kernel_rfl

/-- catacomb/catacomblaw08.own -/
def c21 : AF := AF.mk 72 [.cell 6 3 true, .t 7, .t 8] (.seq (.ops (.op (some 3) (.rbox (.t 0)) (.op (some 5) (.rbox (.t 2)) (.op (some 6) (.alloc [.lst true [], .int .i64 0, .int .i64 0]) (.op (some 7) (.mv (.c (.lst true []))) (.op (some 8) (.mv (.c (.int .i64 0))) (.nil)))))))
 (.seq (.seq (.ops (.op (some 16) (.fad 0 (.t 5)) (.op (some 17) (.loadr 1 false (.t 16)) (.op (some 18) (.bin .rem (.t 17) (.c (.int .u8 8))) (.nil)))))
 (.block 0 (.seq (.seq (.ops (.op (some 20) (.bin .eql (.t 18) (.c (.int .u8 4))) (.op (some 19) (.mv (.t 20)) (.nil))))
 (.cond (.t 19) (.skip) (.ops (.op (some 21) (.bin .eql (.t 18) (.c (.int .u8 5))) (.op (some 19) (.mv (.t 21)) (.nil))))))
 (.cond (.t 19) (.seq (.ops (.op (some 23) (.loadr 3 true (.t 3)) (.op (some 24) (.mv (.t 1)) (.op (some 25) (.loadr 5 true (.t 5)) (.op (some 26) (.callp 14 [(.t 25)]) (.op (some 27) (.loadr 5 true (.t 5)) (.op (some 28) (.callp 15 [(.t 27)]) (.op (some 29) (.callp 18 [(.t 23), (.t 24), (.t 26), (.t 28)]) (.op (some 22) (.mv (.t 29)) (.op (some 30) (.ext (.t 22) 0) (.op (some 31) (.ext (.t 22) 1) (.op (some 32) (.ext (.t 22) 2) (.op (some 9) (.alloc [.lst true [], .int .i64 0, .int .i64 0]) (.op none (.store 3 (.t 9) (.t 30)) (.op (some 10) (.mv (.t 31)) (.op (some 11) (.mv (.t 32)) (.nil)))))))))))))))))
 (.seq (.ops (.op (some 33) (.load 3 true (.t 9)) (.op (some 34) (.mv (.t 10)) (.op (some 35) (.mv (.t 11)) (.op none (.store 3 (.t 6) (.t 33)) (.op (some 7) (.mv (.t 34)) (.op (some 8) (.mv (.t 35)) (.nil))))))))
 (.ret))) (.seq (.ops (.op (some 37) (.bin .eql (.t 18) (.c (.int .u8 6))) (.op (some 36) (.mv (.t 37)) (.nil))))
 (.cond (.t 36) (.seq (.ops (.op (some 39) (.loadr 3 true (.t 3)) (.op (some 40) (.mv (.t 1)) (.op (some 41) (.loadr 5 true (.t 5)) (.op (some 42) (.callp 14 [(.t 41)]) (.op (some 43) (.callp 32 [(.t 39), (.t 40), (.t 42)]) (.op (some 38) (.mv (.t 43)) (.op (some 44) (.ext (.t 38) 0) (.op (some 45) (.ext (.t 38) 1) (.op (some 12) (.alloc [.lst true [], .int .i64 0, .int .i64 0]) (.op none (.store 3 (.t 12) (.t 44)) (.op (some 13) (.mv (.t 45)) (.nil)))))))))))))
 (.seq (.ops (.op (some 46) (.load 3 true (.t 12)) (.op (some 47) (.mv (.t 13)) (.op none (.store 3 (.t 6) (.t 46)) (.op (some 7) (.mv (.t 47)) (.op (some 8) (.mv (.c (.int .i64 0))) (.nil)))))))
 (.ret))) (.seq (.ops (.op (some 49) (.bin .eql (.t 18) (.c (.int .u8 7))) (.op (some 48) (.mv (.t 49)) (.nil))))
 (.cond (.t 48) (.seq (.ops (.op (some 50) (.loadr 3 true (.t 3)) (.op (some 51) (.mv (.t 1)) (.op (some 52) (.loadr 5 true (.t 5)) (.op (some 53) (.call 52 [(.t 50), (.t 51), (.t 52)]) (.op (some 54) (.mv (.t 1)) (.op none (.store 3 (.t 6) (.t 53)) (.op (some 7) (.mv (.t 54)) (.op (some 8) (.mv (.c (.int .i64 0))) (.nil))))))))))
 (.ret)) (.skip)))))))))
 (.seq (.ops (.op (some 56) (.loadr 3 true (.t 3)) (.op (some 57) (.mv (.t 1)) (.op (some 58) (.loadr 5 true (.t 5)) (.op (some 59) (.callp 14 [(.t 58)]) (.op (some 60) (.loadr 5 true (.t 5)) (.op (some 61) (.callp 15 [(.t 60)]) (.op (some 62) (.loadr 3 true (.t 3)) (.op (some 63) (.fad 3 (.t 5)) (.op (some 64) (.loadr 1 false (.t 63)) (.op (some 65) (.callp 12 [(.t 62), (.t 64)]) (.op (some 66) (.callp 13 [(.t 56), (.t 57), (.t 59), (.t 61), (.t 65)]) (.op (some 55) (.mv (.t 66)) (.op (some 67) (.ext (.t 55) 0) (.op (some 68) (.ext (.t 55) 1) (.op (some 14) (.mv (.t 67)) (.op (some 15) (.mv (.t 68)) (.nil))))))))))))))))))
 (.seq (.ops (.op (some 69) (.loadr 3 true (.t 3)) (.op (some 70) (.mv (.t 14)) (.op (some 71) (.mv (.t 15)) (.op none (.store 3 (.t 6) (.t 69)) (.op (some 7) (.mv (.t 70)) (.op (some 8) (.mv (.t 71)) (.nil))))))))
 (.ret)))))

theorem ok21 : okF Try.prog 21 c21 = true := by kernel_rfl

/-- catacomb/catacomblaw08.Done -/
def c22 : AF := AF.mk 72 [.cell 6 3 true, .t 7, .t 8] (.seq (.ops (.op (some 3) (.rbox (.t 0)) (.op (some 5) (.rbox (.t 2)) (.op (some 6) (.alloc [.lst true [], .int .i64 0, .int .i64 0]) (.op (some 7) (.mv (.c (.lst true []))) (.op (some 8) (.mv (.c (.int .i64 0))) (.nil)))))))
 (.seq (.seq (.ops (.op (some 16) (.fad 0 (.t 5)) (.op (some 17) (.loadr 1 false (.t 16)) (.op (some 18) (.bin .rem (.t 17) (.c (.int .u8 8))) (.nil)))))
 (.block 0 (.seq (.seq (.ops (.op (some 20) (.bin .eql (.t 18) (.c (.int .u8 4))) (.op (some 19) (.mv (.t 20)) (.nil))))
 (.cond (.t 19) (.skip) (.ops (.op (some 21) (.bin .eql (.t 18) (.c (.int .u8 5))) (.op (some 19) (.mv (.t 21)) (.nil))))))
 (.cond (.t 19) (.seq (.ops (.op (some 23) (.loadr 3 true (.t 3)) (.op (some 24) (.mv (.t 1)) (.op (some 25) (.loadr 5 true (.t 5)) (.op (some 26) (.callp 14 [(.t 25)]) (.op (some 27) (.loadr 5 true (.t 5)) (.op (some 28) (.callp 15 [(.t 27)]) (.op (some 29) (.callp 53 [(.t 23), (.t 24), (.t 26), (.t 28)]) (.op (some 22) (.mv (.t 29)) (.op (some 30) (.ext (.t 22) 0) (.op (some 31) (.ext (.t 22) 1) (.op (some 32) (.ext (.t 22) 2) (.op (some 9) (.alloc [.lst true [], .int .i64 0, .int .i64 0]) (.op none (.store 3 (.t 9) (.t 30)) (.op (some 10) (.mv (.t 31)) (.op (some 11) (.mv (.t 32)) (.nil)))))))))))))))))
 (.seq (.ops (.op (some 33) (.load 3 true (.t 9)) (.op (some 34) (.mv (.t 10)) (.op (some 35) (.mv (.t 11)) (.op none (.store 3 (.t 6) (.t 33)) (.op (some 7) (.mv (.t 34)) (.op (some 8) (.mv (.t 35)) (.nil))))))))
 (.ret))) (.seq (.ops (.op (some 37) (.bin .eql (.t 18) (.c (.int .u8 6))) (.op (some 36) (.mv (.t 37)) (.nil))))
 (.cond (.t 36) (.seq (.ops (.op (some 39) (.loadr 3 true (.t 3)) (.op (some 40) (.mv (.t 1)) (.op (some 41) (.loadr 5 true (.t 5)) (.op (some 42) (.callp 14 [(.t 41)]) (.op (some 43) (.callp 54 [(.t 39), (.t 40), (.t 42)]) (.op (some 38) (.mv (.t 43)) (.op (some 44) (.ext (.t 38) 0) (.op (some 45) (.ext (.t 38) 1) (.op (some 12) (.alloc [.lst true [], .int .i64 0, .int .i64 0]) (.op none (.store 3 (.t 12) (.t 44)) (.op (some 13) (.mv (.t 45)) (.nil)))))))))))))
 (.seq (.ops (.op (some 46) (.load 3 true (.t 12)) (.op (some 47) (.mv (.t 13)) (.op none (.store 3 (.t 6) (.t 46)) (.op (some 7) (.mv (.t 47)) (.op (some 8) (.mv (.c (.int .i64 0))) (.nil)))))))
 (.ret))) (.seq (.ops (.op (some 49) (.bin .eql (.t 18) (.c (.int .u8 7))) (.op (some 48) (.mv (.t 49)) (.nil))))
 (.cond (.t 48) (.seq (.ops (.op (some 50) (.loadr 3 true (.t 3)) (.op (some 51) (.mv (.t 1)) (.op (some 52) (.loadr 5 true (.t 5)) (.op (some 53) (.call 52 [(.t 50), (.t 51), (.t 52)]) (.op (some 54) (.mv (.t 1)) (.op none (.store 3 (.t 6) (.t 53)) (.op (some 7) (.mv (.t 54)) (.op (some 8) (.mv (.c (.int .i64 0))) (.nil))))))))))
 (.ret)) (.skip)))))))))
 (.seq (.ops (.op (some 56) (.loadr 3 true (.t 3)) (.op (some 57) (.mv (.t 1)) (.op (some 58) (.loadr 5 true (.t 5)) (.op (some 59) (.callp 14 [(.t 58)]) (.op (some 60) (.loadr 5 true (.t 5)) (.op (some 61) (.callp 15 [(.t 60)]) (.op (some 62) (.loadr 3 true (.t 3)) (.op (some 63) (.fad 3 (.t 5)) (.op (some 64) (.loadr 1 false (.t 63)) (.op (some 65) (.callp 12 [(.t 62), (.t 64)]) (.op (some 66) (.callp 55 [(.t 56), (.t 57), (.t 59), (.t 61), (.t 65)]) (.op (some 55) (.mv (.t 66)) (.op (some 67) (.ext (.t 55) 0) (.op (some 68) (.ext (.t 55) 1) (.op (some 14) (.mv (.t 67)) (.op (some 15) (.mv (.t 68)) (.nil))))))))))))))))))
 (.seq (.ops (.op (some 69) (.loadr 3 true (.t 3)) (.op (some 70) (.mv (.t 14)) (.op (some 71) (.mv (.t 15)) (.op none (.store 3 (.t 6) (.t 69)) (.op (some 7) (.mv (.t 70)) (.op (some 8) (.mv (.t 71)) (.nil))))))))
 (.ret)))))

theorem ok22 : okF Try.prog 22 c22 = true := by kernel_rfl

/-- catacomb/catacombref08.Ino -/
def c23 : AF := AF.mk 20 [.t 6, .t 7] (.seq (.ops (.op (some 6) (.mv (.c (.int .i64 0))) (.op (some 7) (.mv (.c (.int .i64 0))) (.nil))))
 (.seq (.ops (.op (some 9) (.mv (.t 0)) (.op (some 10) (.mv (.t 1)) (.op (some 11) (.mv (.t 2)) (.op (some 12) (.call 56 [(.t 9), (.t 10), (.t 11)]) (.op (some 8) (.mv (.t 12)) (.nil)))))))
 (.seq (.seq (.ops (.op (some 13) (.mv (.t 8)) (.op (some 14) (.bin .lss (.t 13) (.c (.int .i64 0))) (.nil))))
 (.cond (.t 14) (.seq (.ops (.op (some 6) (.mv (.c (.int .i64 0))) (.op (some 7) (.mv (.c (.int .i64 80))) (.nil))))
 (.ret)) (.skip)))
 (.seq (.ops (.op (some 15) (.mv (.t 0)) (.op (some 16) (.mv (.t 8)) (.op (some 17) (.iad 3 (.t 15) (.t 16)) (.op (some 18) (.fad 2 (.t 17)) (.op (some 19) (.load 1 false (.t 18)) (.op (some 6) (.mv (.t 19)) (.op (some 7) (.mv (.c (.int .i64 0))) (.nil)))))))))
 (.ret)))))

theorem ok23 : okF Try.prog 23 c23 = true := by kernel_rfl

/-- catacomb/hold.Orphans -/
def b24_1 : AC := .seq (.ops (.op (some 10) (.bin .lss (.t 9) (.t 8)) (.nil)))
 (.seq (.cond (.t 10) (.skip) (.exit 0))
 (.seq (.block 1 (.seq (.ops (.op (some 11) (.iad 6 (.t 7) (.t 9)) (.op (some 12) (.load 6 true (.t 11)) (.op (some 5) (.alloc [.int .i64 0, .int .i64 0, .int .i64 0, .lst true [], .lst true [], .int .i64 0]) (.op none (.store 6 (.t 5) (.t 12)) (.nil))))))
 (.seq (.ops (.op (some 13) (.load 6 true (.t 5)) (.op (some 14) (.call 42 [(.t 13)]) (.nil))))
 (.cond (.t 14) (.ops (.op (some 15) (.mv (.t 3)) (.op (some 16) (.fad 0 (.t 5)) (.op (some 17) (.load 1 false (.t 16)) (.op (some 18) (.bslh 1 (.int .i64 0) 1 [(0, (.t 17))]) (.op (some 19) (.app 1 8 (.t 15) (.t 18)) (.op (some 3) (.mv (.t 19)) (.nil)))))))) (.skip)))))
 (.ops (.op (some 20) (.bin .add (.t 9) (.c (.int .i64 1))) (.op (some 9) (.mv (.t 20)) (.nil))))))
def c24_1 : AC := b24_1
@[simp] theorem e24_1 {Γ : Tab} {V : Nat → Bool} {ρ : Type} (k : AX → St → Option ρ) (s : St) : eval Γ c24_1 V ρ k s = eval Γ b24_1 V ρ k s := rfl
def c24 : AF := AF.mk 22 [.t 2] (.seq (.ops (.op (some 1) (.rbox (.t 0)) (.op (some 2) (.mv (.c (.lst true []))) (.nil))))
 (.seq (.ops (.op (some 3) (.mv (.c (.lst true []))) (.nil)))
 (.seq (.seq (.ops (.op (some 6) (.fad 0 (.t 1)) (.op (some 7) (.loadr 1 false (.t 6)) (.op (some 8) (.len false (.t 7)) (.op (some 9) (.mv (.c (.int .i64 0))) (.nil))))))
 (.block 0 (.loop [3, 9] [(3, 3), (5, 5), (9, 20)] [(3, 1)] [(.exit 0, [3])] c24_1)))
 (.seq (.ops (.op (some 21) (.mv (.t 3)) (.op (some 2) (.mv (.t 21)) (.nil))))
 (.ret)))))

theorem ok24 : okF Try.prog 24 c24 = true := by kernel_rfl

/-- catacomb/catacombref08.Orphans -/
def b25_1 : AC := .seq (.seq (.ops (.op (some 6) (.mv (.t 4)) (.op (some 7) (.fad 0 (.t 1)) (.op (some 8) (.loadr 1 false (.t 7)) (.op (some 9) (.len false (.t 8)) (.op (some 10) (.bin .lss (.t 6) (.t 9)) (.nil)))))))
 (.cond (.t 10) (.skip) (.exit 0)))
 (.seq (.block 1 (.seq (.ops (.op (some 13) (.fad 0 (.t 1)) (.op (some 14) (.loadr 1 false (.t 13)) (.op (some 15) (.mv (.t 4)) (.op (some 16) (.iad 6 (.t 14) (.t 15)) (.op (some 17) (.fad 1 (.t 16)) (.op (some 18) (.load 1 false (.t 17)) (.op (some 19) (.bin .eql (.t 18) (.c (.int .i64 1))) (.op (some 20) (.mv (.t 19)) (.sc 28 true 20 21 27 (.op (some 21) (.fad 0 (.t 1)) (.op (some 22) (.loadr 1 false (.t 21)) (.op (some 23) (.mv (.t 4)) (.op (some 24) (.iad 6 (.t 22) (.t 23)) (.op (some 25) (.fad 2 (.t 24)) (.op (some 26) (.load 1 false (.t 25)) (.op (some 27) (.bin .eql (.t 26) (.c (.int .i64 0))) (.nil)))))))) (.t 27) (.nil)))))))))))
 (.cond (.t 28) (.ops (.op (some 29) (.mv (.t 3)) (.op (some 30) (.fad 0 (.t 1)) (.op (some 31) (.loadr 1 false (.t 30)) (.op (some 32) (.mv (.t 4)) (.op (some 33) (.iad 6 (.t 31) (.t 32)) (.op (some 34) (.fad 0 (.t 33)) (.op (some 35) (.load 1 false (.t 34)) (.op (some 36) (.bslh 1 (.int .i64 0) 1 [(0, (.t 35))]) (.op (some 37) (.app 1 8 (.t 29) (.t 36)) (.op (some 3) (.mv (.t 37)) (.nil)))))))))))) (.skip))))
 (.ops (.op (some 11) (.mv (.t 4)) (.op (some 12) (.bin .add (.t 11) (.c (.int .i64 1))) (.op (some 4) (.mv (.t 12)) (.nil))))))
def c25_1 : AC := b25_1
@[simp] theorem e25_1 {Γ : Tab} {V : Nat → Bool} {ρ : Type} (k : AX → St → Option ρ) (s : St) : eval Γ c25_1 V ρ k s = eval Γ b25_1 V ρ k s := rfl
def c25 : AF := AF.mk 39 [.t 2] (.seq (.ops (.op (some 1) (.rbox (.t 0)) (.op (some 2) (.mv (.c (.lst true []))) (.nil))))
 (.seq (.ops (.op (some 5) (.bslo 1 (.int .i64 0) 0 []) (.op (some 3) (.mv (.t 5)) (.nil))))
 (.seq (.seq (.ops (.op (some 4) (.mv (.c (.int .i64 0))) (.nil)))
 (.block 0 (.loop [3, 4] [(3, 4), (6, 37)] [(3, 1)] [(.exit 0, [3])] c25_1)))
 (.seq (.ops (.op (some 38) (.mv (.t 3)) (.op (some 2) (.mv (.t 38)) (.nil))))
 (.ret)))))

theorem ok25 : okF Try.prog 25 c25 = true := by kernel_rfl

/-- catacomb/hold.Right -/
def b26_1 : AC := .seq (.ops (.op (some 15) (.bin .lss (.t 14) (.t 13)) (.nil)))
 (.seq (.cond (.t 15) (.skip) (.exit 0))
 (.seq (.block 1 (.seq (.ops (.op (some 16) (.mv (.t 14)) (.op (some 17) (.iad 3 (.t 12) (.t 14)) (.op (some 18) (.load 3 true (.t 17)) (.op (some 6) (.alloc [.int .i64 0, .int .i64 0, .int .i64 0]) (.op (some 5) (.mv (.t 16)) (.op none (.store 3 (.t 6) (.t 18)) (.nil))))))))
 (.seq (.ops (.op (some 20) (.loadr 3 true (.t 2)) (.op (some 21) (.fad 2 (.t 6)) (.op (some 22) (.load 1 false (.t 21)) (.op (some 23) (.call 39 [(.t 20), (.t 22)]) (.op (some 19) (.mv (.t 23)) (.op (some 24) (.ext (.t 19) 0) (.op (some 25) (.ext (.t 19) 1) (.op (some 7) (.alloc [.int .i64 0, .int .i64 0, .int .i64 0, .lst true [], .lst true [], .int .i64 0]) (.op none (.store 6 (.t 7) (.t 24)) (.op (some 8) (.mv (.t 25)) (.nil))))))))))))
 (.seq (.seq (.ops (.op (some 26) (.load 3 true (.t 6)) (.op (some 27) (.call 57 [(.t 26)]) (.op (some 28) (.call 38 [(.t 27)]) (.op (some 29) (.un .not (.t 28)) (.op (some 30) (.mv (.t 29)) (.sc 33 false 30 31 32 (.op (some 31) (.mv (.t 8)) (.op (some 32) (.un .not (.t 31)) (.nil))) (.t 32) (.op (some 34) (.mv (.t 33)) (.sc 38 false 34 35 37 (.op (some 35) (.fad 1 (.t 7)) (.op (some 36) (.load 1 false (.t 35)) (.op (some 37) (.bin .neq (.t 36) (.c (.int .i64 1))) (.nil)))) (.t 37) (.nil))))))))))
 (.cond (.t 38) (.seq (.ops (.op (some 4) (.mv (.c (.bool false))) (.nil)))
 (.ret)) (.skip)))
 (.seq (.ops (.op (some 39) (.mv (.t 5)) (.op (some 40) (.bin .gtr (.t 39) (.c (.int .i64 0))) (.op (some 41) (.mv (.t 40)) (.sc 52 true 41 42 51 (.op (some 42) (.load 1 false (.t 3)) (.op (some 43) (.mv (.t 5)) (.op (some 44) (.bin .sub (.t 43) (.c (.int .i64 1))) (.op (some 45) (.iad 3 (.t 42) (.t 44)) (.op (some 46) (.load 3 true (.t 45)) (.op (some 47) (.callp 57 [(.t 46)]) (.op (some 48) (.load 3 true (.t 6)) (.op (some 49) (.build [.int .i64 0, .int .i64 0] []) (.op (some 50) (.callp 41 [(.t 47), (.t 48), (.t 49)]) (.op (some 51) (.bin .leq (.t 50) (.c (.int .i64 0))) (.nil))))))))))) (.t 51) (.nil))))))
 (.cond (.t 52) (.seq (.ops (.op (some 4) (.mv (.c (.bool false))) (.nil)))
 (.ret)) (.skip)))))))
 (.ops (.op (some 53) (.bin .add (.t 14) (.c (.int .i64 1))) (.op (some 14) (.mv (.t 53)) (.nil))))))
def c26_1 : AC := b26_1
@[simp] theorem e26_1 {Γ : Tab} {V : Nat → Bool} {ρ : Type} (k : AX → St → Option ρ) (s : St) : eval Γ c26_1 V ρ k s = eval Γ b26_1 V ρ k s := rfl
def c26 : AF := AF.mk 59 [.t 4] (.seq (.ops (.op (some 2) (.rbox (.t 0)) (.op (some 3) (.box (.t 1)) (.op (some 4) (.mv (.c (.bool false))) (.nil)))))
 (.seq (.seq (.ops (.op (some 9) (.load 1 false (.t 3)) (.op (some 10) (.len false (.t 9)) (.op (some 11) (.bin .gtr (.t 10) (.c (.int .i64 64))) (.nil)))))
 (.cond (.t 11) (.seq (.ops (.op (some 4) (.mv (.c (.bool false))) (.nil)))
 (.ret)) (.skip)))
 (.seq (.seq (.ops (.op (some 12) (.load 1 false (.t 3)) (.op (some 13) (.len false (.t 12)) (.op (some 14) (.mv (.c (.int .i64 0))) (.nil)))))
 (.block 0 (.loop [14] [(4, 8), (14, 53)] [] [(.exit 0, []), (.ret, [4])] c26_1)))
 (.seq (.ops (.op (some 54) (.loadr 3 true (.t 2)) (.op (some 55) (.call 24 [(.t 54)]) (.op (some 56) (.mkf (.func 59) [] [(.t 3)]) (.op (some 57) (.call 58 [(.t 55), (.t 56)]) (.op (some 58) (.un .not (.t 57)) (.op (some 4) (.mv (.t 58)) (.nil))))))))
 (.ret)))))

theorem ok26 : okF Try.prog 26 c26 = true := by kernel_rfl

/-- catacomb/catacombref08.Right -/
def b27_1 : AC := .seq (.seq (.ops (.op (some 14) (.mv (.t 5)) (.op (some 15) (.mv (.t 1)) (.op (some 16) (.len false (.t 15)) (.op (some 17) (.bin .lss (.t 14) (.t 16)) (.nil))))))
 (.cond (.t 17) (.skip) (.exit 0)))
 (.seq (.block 1 (.seq (.ops (.op (some 20) (.mv (.t 1)) (.op (some 21) (.mv (.t 5)) (.op (some 22) (.iad 3 (.t 20) (.t 21)) (.op (some 23) (.load 3 true (.t 22)) (.op (some 6) (.alloc [.int .i64 0, .int .i64 0, .int .i64 0]) (.op none (.store 3 (.t 6) (.t 23)) (.nil))))))))
 (.seq (.ops (.op (some 25) (.loadr 3 true (.t 2)) (.op (some 26) (.fad 2 (.t 6)) (.op (some 27) (.load 1 false (.t 26)) (.op (some 28) (.call 29 [(.t 25), (.t 27)]) (.op (some 24) (.mv (.t 28)) (.op (some 29) (.ext (.t 24) 0) (.op (some 30) (.ext (.t 24) 1) (.op (some 7) (.alloc [.int .i64 0, .int .i64 0, .int .i64 0, .lst true [], .lst true [], .int .i64 0]) (.op none (.store 6 (.t 7) (.t 29)) (.op (some 8) (.mv (.t 30)) (.nil))))))))))))
 (.seq (.seq (.ops (.op (some 31) (.fad 0 (.t 6)) (.op (some 32) (.load 1 false (.t 31)) (.op (some 33) (.bin .lss (.t 32) (.c (.int .i64 0))) (.op (some 34) (.mv (.t 33)) (.sc 38 false 34 35 37 (.op (some 35) (.fad 0 (.t 6)) (.op (some 36) (.load 1 false (.t 35)) (.op (some 37) (.bin .geq (.t 36) (.c (.int .i64 16))) (.nil)))) (.t 37) (.op (some 39) (.mv (.t 38)) (.sc 43 false 39 40 42 (.op (some 40) (.fad 1 (.t 6)) (.op (some 41) (.load 1 false (.t 40)) (.op (some 42) (.bin .lss (.t 41) (.c (.int .i64 0))) (.nil)))) (.t 42) (.op (some 44) (.mv (.t 43)) (.sc 48 false 44 45 47 (.op (some 45) (.fad 1 (.t 6)) (.op (some 46) (.load 1 false (.t 45)) (.op (some 47) (.bin .gtr (.t 46) (.c (.int .i64 99))) (.nil)))) (.t 47) (.op (some 49) (.mv (.t 48)) (.sc 52 false 49 50 51 (.op (some 50) (.mv (.t 8)) (.op (some 51) (.un .not (.t 50)) (.nil))) (.t 51) (.op (some 53) (.mv (.t 52)) (.sc 57 false 53 54 56 (.op (some 54) (.fad 1 (.t 7)) (.op (some 55) (.load 1 false (.t 54)) (.op (some 56) (.bin .neq (.t 55) (.c (.int .i64 1))) (.nil)))) (.t 56) (.nil)))))))))))))))
 (.cond (.t 57) (.seq (.ops (.op (some 4) (.mv (.c (.bool false))) (.nil)))
 (.ret)) (.skip)))
 (.seq (.ops (.op (some 58) (.mv (.t 5)) (.op (some 59) (.bin .gtr (.t 58) (.c (.int .i64 0))) (.op (some 60) (.mv (.t 59)) (.sc 92 true 60 61 91 (.op (some 61) (.mv (.t 1)) (.op (some 62) (.mv (.t 5)) (.op (some 63) (.bin .sub (.t 62) (.c (.int .i64 1))) (.op (some 64) (.iad 3 (.t 61) (.t 63)) (.op (some 65) (.fad 0 (.t 64)) (.op (some 66) (.load 1 false (.t 65)) (.op (some 67) (.fad 0 (.t 6)) (.op (some 68) (.load 1 false (.t 67)) (.op (some 69) (.bin .gtr (.t 66) (.t 68)) (.op (some 70) (.mv (.t 69)) (.sc 91 false 70 71 90 (.op (some 71) (.mv (.t 1)) (.op (some 72) (.mv (.t 5)) (.op (some 73) (.bin .sub (.t 72) (.c (.int .i64 1))) (.op (some 74) (.iad 3 (.t 71) (.t 73)) (.op (some 75) (.fad 0 (.t 74)) (.op (some 76) (.load 1 false (.t 75)) (.op (some 77) (.fad 0 (.t 6)) (.op (some 78) (.load 1 false (.t 77)) (.op (some 79) (.bin .eql (.t 76) (.t 78)) (.op (some 80) (.mv (.t 79)) (.sc 90 true 80 81 89 (.op (some 81) (.mv (.t 1)) (.op (some 82) (.mv (.t 5)) (.op (some 83) (.bin .sub (.t 82) (.c (.int .i64 1))) (.op (some 84) (.iad 3 (.t 81) (.t 83)) (.op (some 85) (.fad 1 (.t 84)) (.op (some 86) (.load 1 false (.t 85)) (.op (some 87) (.fad 1 (.t 6)) (.op (some 88) (.load 1 false (.t 87)) (.op (some 89) (.bin .geq (.t 86) (.t 88)) (.nil)))))))))) (.t 89) (.nil)))))))))))) (.t 90) (.nil)))))))))))) (.t 91) (.nil))))))
 (.cond (.t 92) (.seq (.ops (.op (some 4) (.mv (.c (.bool false))) (.nil)))
 (.ret)) (.skip)))))))
 (.ops (.op (some 18) (.mv (.t 5)) (.op (some 19) (.bin .add (.t 18) (.c (.int .i64 1))) (.op (some 5) (.mv (.t 19)) (.nil))))))
def c27_1 : AC := b27_1
@[simp] theorem e27_1 {Γ : Tab} {V : Nat → Bool} {ρ : Type} (k : AX → St → Option ρ) (s : St) : eval Γ c27_1 V ρ k s = eval Γ b27_1 V ρ k s := rfl
def b27_2 : AC := .seq (.seq (.ops (.op (some 95) (.mv (.t 10)) (.op (some 96) (.mv (.t 9)) (.op (some 97) (.len false (.t 96)) (.op (some 98) (.bin .lss (.t 95) (.t 97)) (.nil))))))
 (.cond (.t 98) (.skip) (.exit 2)))
 (.seq (.block 3 (.seq (.ops (.op (some 101) (.mv (.t 1)) (.op (some 102) (.mv (.t 9)) (.op (some 103) (.mv (.t 10)) (.op (some 104) (.iad 1 (.t 102) (.t 103)) (.op (some 105) (.load 1 false (.t 104)) (.op (some 106) (.call 30 [(.t 101), (.t 105)]) (.op (some 107) (.bin .eql (.t 106) (.c (.int .i64 0))) (.nil)))))))))
 (.cond (.t 107) (.seq (.ops (.op (some 4) (.mv (.c (.bool false))) (.nil)))
 (.ret)) (.skip))))
 (.ops (.op (some 99) (.mv (.t 10)) (.op (some 100) (.bin .add (.t 99) (.c (.int .i64 1))) (.op (some 10) (.mv (.t 100)) (.nil))))))
def c27_2 : AC := b27_2
@[simp] theorem e27_2 {Γ : Tab} {V : Nat → Bool} {ρ : Type} (k : AX → St → Option ρ) (s : St) : eval Γ c27_2 V ρ k s = eval Γ b27_2 V ρ k s := rfl
def c27 : AF := AF.mk 108 [.t 4] (.seq (.ops (.op (some 2) (.rbox (.t 0)) (.op (some 4) (.mv (.c (.bool false))) (.nil))))
 (.seq (.seq (.ops (.op (some 11) (.mv (.t 1)) (.op (some 12) (.len false (.t 11)) (.op (some 13) (.bin .gtr (.t 12) (.c (.int .i64 64))) (.nil)))))
 (.cond (.t 13) (.seq (.ops (.op (some 4) (.mv (.c (.bool false))) (.nil)))
 (.ret)) (.skip)))
 (.seq (.seq (.ops (.op (some 5) (.mv (.c (.int .i64 0))) (.nil)))
 (.block 0 (.loop [5] [(4, 8), (14, 92)] [] [(.exit 0, []), (.ret, [4])] c27_1)))
 (.seq (.ops (.op (some 93) (.loadr 3 true (.t 2)) (.op (some 94) (.call 25 [(.t 93)]) (.op (some 9) (.mv (.t 94)) (.nil)))))
 (.seq (.seq (.ops (.op (some 10) (.mv (.c (.int .i64 0))) (.nil)))
 (.block 2 (.loop [10] [(4, 4), (10, 10), (95, 107)] [] [(.exit 2, []), (.ret, [4])] c27_2)))
 (.seq (.ops (.op (some 4) (.mv (.c (.bool true))) (.nil)))
 (.ret)))))))

theorem ok27 : okF Try.prog 27 c27 = true := by kernel_rfl

/-- catacomb/catacombref07.Right -/
def b28_1 : AC := .seq (.seq (.ops (.op (some 49) (.mv (.t 3)) (.op (some 50) (.fad 0 (.t 1)) (.op (some 51) (.loadr 1 false (.t 50)) (.op (some 52) (.len false (.t 51)) (.op (some 53) (.bin .lss (.t 49) (.t 52)) (.nil)))))))
 (.cond (.t 53) (.skip) (.exit 0)))
 (.seq (.block 1 (.seq (.ops (.op (some 56) (.fad 0 (.t 1)) (.op (some 57) (.loadr 1 false (.t 56)) (.op (some 58) (.mv (.t 3)) (.op (some 59) (.iad 6 (.t 57) (.t 58)) (.op (some 60) (.load 6 true (.t 59)) (.op (some 4) (.alloc [.int .i64 0, .int .i64 0, .int .i64 0, .lst true [], .lst true [], .int .i64 0]) (.op none (.store 6 (.t 4) (.t 60)) (.nil)))))))))
 (.seq (.ops (.op (some 61) (.mv (.t 3)) (.op (some 62) (.bin .gtr (.t 61) (.c (.int .i64 0))) (.op (some 63) (.mv (.t 62)) (.sc 74 true 63 64 73 (.op (some 64) (.fad 0 (.t 4)) (.op (some 65) (.load 1 false (.t 64)) (.op (some 66) (.fad 0 (.t 1)) (.op (some 67) (.loadr 1 false (.t 66)) (.op (some 68) (.mv (.t 3)) (.op (some 69) (.bin .sub (.t 68) (.c (.int .i64 1))) (.op (some 70) (.iad 6 (.t 67) (.t 69)) (.op (some 71) (.fad 0 (.t 70)) (.op (some 72) (.load 1 false (.t 71)) (.op (some 73) (.bin .leq (.t 65) (.t 72)) (.nil))))))))))) (.t 73) (.op (some 75) (.mv (.t 74)) (.sc 81 false 75 76 80 (.op (some 76) (.fad 0 (.t 4)) (.op (some 77) (.load 1 false (.t 76)) (.op (some 78) (.fad 1 (.t 1)) (.op (some 79) (.loadr 1 false (.t 78)) (.op (some 80) (.bin .geq (.t 77) (.t 79)) (.nil)))))) (.t 80) (.op (some 82) (.mv (.t 81)) (.sc 87 false 82 83 86 (.op (some 83) (.fad 4 (.t 4)) (.op (some 84) (.load 1 false (.t 83)) (.op (some 85) (.len false (.t 84)) (.op (some 86) (.bin .gtr (.t 85) (.c (.int .i64 64))) (.nil))))) (.t 86) (.op (some 88) (.mv (.t 87)) (.sc 93 false 88 89 92 (.op (some 89) (.loadr 3 true (.t 1)) (.op (some 90) (.load 6 true (.t 4)) (.op (some 91) (.callp 60 [(.t 89), (.t 90)]) (.op (some 92) (.un .not (.t 91)) (.nil))))) (.t 92) (.nil))))))))))))
 (.cond (.t 93) (.seq (.ops (.op (some 2) (.mv (.c (.bool false))) (.nil)))
 (.ret)) (.skip)))))
 (.ops (.op (some 54) (.mv (.t 3)) (.op (some 55) (.bin .add (.t 54) (.c (.int .i64 1))) (.op (some 3) (.mv (.t 55)) (.nil))))))
def c28_1 : AC := b28_1
@[simp] theorem e28_1 {Γ : Tab} {V : Nat → Bool} {ρ : Type} (k : AX → St → Option ρ) (s : St) : eval Γ c28_1 V ρ k s = eval Γ b28_1 V ρ k s := rfl
def b28_2 : AC := .seq (.seq (.ops (.op (some 94) (.mv (.t 5)) (.op (some 95) (.fad 0 (.t 1)) (.op (some 96) (.loadr 1 false (.t 95)) (.op (some 97) (.len false (.t 96)) (.op (some 98) (.bin .lss (.t 94) (.t 97)) (.nil)))))))
 (.cond (.t 98) (.skip) (.exit 2)))
 (.seq (.block 3 (.seq (.ops (.op (some 101) (.fad 0 (.t 1)) (.op (some 102) (.loadr 1 false (.t 101)) (.op (some 103) (.mv (.t 5)) (.op (some 104) (.iad 6 (.t 102) (.t 103)) (.op (some 105) (.load 6 true (.t 104)) (.op (some 6) (.alloc [.int .i64 0, .int .i64 0, .int .i64 0, .lst true [], .lst true [], .int .i64 0]) (.op none (.store 6 (.t 6) (.t 105)) (.nil)))))))))
 (.seq (.seq (.ops (.op (some 106) (.fad 1 (.t 6)) (.op (some 107) (.load 1 false (.t 106)) (.op (some 108) (.bin .neq (.t 107) (.c (.int .i64 2))) (.nil)))))
 (.cond (.t 108) (.exit 3) (.skip)))
 (.seq (.ops (.op (some 109) (.loadr 3 true (.t 1)) (.op (some 110) (.fad 0 (.t 6)) (.op (some 111) (.load 1 false (.t 110)) (.op (some 112) (.call 61 [(.t 109), (.t 111)]) (.op (some 7) (.mv (.t 112)) (.nil)))))))
 (.seq (.ops (.op (some 113) (.loadr 3 true (.t 1)) (.op (some 114) (.fad 0 (.t 6)) (.op (some 115) (.load 1 false (.t 114)) (.op (some 116) (.call 62 [(.t 113), (.t 115), (.c (.int .i64 1))]) (.op (some 117) (.un .not (.t 116)) (.op (some 118) (.mv (.t 117)) (.sc 121 false 118 119 120 (.op (some 119) (.mv (.t 7)) (.op (some 120) (.bin .gtr (.t 119) (.c (.int .i64 12))) (.nil))) (.t 120) (.op (some 122) (.mv (.t 121)) (.sc 131 false 122 123 130 (.op (some 123) (.mv (.t 7)) (.op (some 124) (.bin .eql (.t 123) (.c (.int .i64 12))) (.op (some 125) (.mv (.t 124)) (.sc 130 true 125 126 129 (.op (some 126) (.fad 4 (.t 6)) (.op (some 127) (.load 1 false (.t 126)) (.op (some 128) (.len false (.t 127)) (.op (some 129) (.bin .gtr (.t 128) (.c (.int .i64 0))) (.nil))))) (.t 129) (.nil))))) (.t 130) (.nil)))))))))))
 (.cond (.t 131) (.seq (.ops (.op (some 2) (.mv (.c (.bool false))) (.nil)))
 (.ret)) (.skip)))))))
 (.ops (.op (some 99) (.mv (.t 5)) (.op (some 100) (.bin .add (.t 99) (.c (.int .i64 1))) (.op (some 5) (.mv (.t 100)) (.nil))))))
def c28_2 : AC := b28_2
@[simp] theorem e28_2 {Γ : Tab} {V : Nat → Bool} {ρ : Type} (k : AX → St → Option ρ) (s : St) : eval Γ c28_2 V ρ k s = eval Γ b28_2 V ρ k s := rfl
def c28 : AF := AF.mk 132 [.t 2] (.seq (.ops (.op (some 1) (.rbox (.t 0)) (.op (some 2) (.mv (.c (.bool false))) (.nil))))
 (.seq (.seq (.ops (.op (some 8) (.fad 0 (.t 1)) (.op (some 9) (.loadr 1 false (.t 8)) (.op (some 10) (.len false (.t 9)) (.op (some 11) (.bin .lss (.t 10) (.c (.int .i64 1))) (.op (some 12) (.mv (.t 11)) (.sc 17 false 12 13 16 (.op (some 13) (.fad 0 (.t 1)) (.op (some 14) (.loadr 1 false (.t 13)) (.op (some 15) (.len false (.t 14)) (.op (some 16) (.bin .gtr (.t 15) (.c (.int .i64 200))) (.nil))))) (.t 16) (.op (some 18) (.mv (.t 17)) (.sc 25 false 18 19 24 (.op (some 19) (.fad 0 (.t 1)) (.op (some 20) (.loadr 1 false (.t 19)) (.op (some 21) (.iad 6 (.t 20) (.c (.int .i64 0))) (.op (some 22) (.fad 0 (.t 21)) (.op (some 23) (.load 1 false (.t 22)) (.op (some 24) (.bin .neq (.t 23) (.c (.int .i64 1))) (.nil))))))) (.t 24) (.op (some 26) (.mv (.t 25)) (.sc 33 false 26 27 32 (.op (some 27) (.fad 0 (.t 1)) (.op (some 28) (.loadr 1 false (.t 27)) (.op (some 29) (.iad 6 (.t 28) (.c (.int .i64 0))) (.op (some 30) (.fad 1 (.t 29)) (.op (some 31) (.load 1 false (.t 30)) (.op (some 32) (.bin .neq (.t 31) (.c (.int .i64 2))) (.nil))))))) (.t 32) (.op (some 34) (.mv (.t 33)) (.sc 38 false 34 35 37 (.op (some 35) (.fad 1 (.t 1)) (.op (some 36) (.loadr 1 false (.t 35)) (.op (some 37) (.bin .gtr (.t 36) (.c (.int .i64 1099511627776))) (.nil)))) (.t 37) (.op (some 39) (.mv (.t 38)) (.sc 43 false 39 40 42 (.op (some 40) (.fad 2 (.t 1)) (.op (some 41) (.loadr 1 false (.t 40)) (.op (some 42) (.bin .lss (.t 41) (.c (.int .i64 1))) (.nil)))) (.t 42) (.op (some 44) (.mv (.t 43)) (.sc 48 false 44 45 47 (.op (some 45) (.fad 2 (.t 1)) (.op (some 46) (.loadr 1 false (.t 45)) (.op (some 47) (.bin .gtr (.t 46) (.c (.int .i64 1099511627776))) (.nil)))) (.t 47) (.nil))))))))))))))))))
 (.cond (.t 48) (.seq (.ops (.op (some 2) (.mv (.c (.bool false))) (.nil)))
 (.ret)) (.skip)))
 (.seq (.seq (.ops (.op (some 3) (.mv (.c (.int .i64 0))) (.nil)))
 (.block 0 (.loop [3] [(2, 4), (49, 93)] [] [(.exit 0, []), (.ret, [2])] c28_1)))
 (.seq (.seq (.ops (.op (some 5) (.mv (.c (.int .i64 0))) (.nil)))
 (.block 2 (.loop [5] [(2, 2), (5, 7), (94, 131)] [] [(.exit 2, []), (.ret, [2])] c28_2)))
 (.seq (.ops (.op (some 2) (.mv (.c (.bool true))) (.nil)))
 (.ret))))))

theorem ok28 : okF Try.prog 28 c28 = true := by kernel_rfl

/-- catacomb/catacombref07.Get -/
def c29 : AF := AF.mk 18 [.cell 4 6 true, .t 5] (.seq (.ops (.op (some 2) (.rbox (.t 0)) (.op (some 4) (.alloc [.int .i64 0, .int .i64 0, .int .i64 0, .lst true [], .lst true [], .int .i64 0]) (.op (some 5) (.mv (.c (.bool false))) (.nil)))))
 (.seq (.ops (.op (some 7) (.loadr 3 true (.t 2)) (.op (some 8) (.mv (.t 1)) (.op (some 9) (.call 63 [(.t 7), (.t 8)]) (.op (some 6) (.mv (.t 9)) (.nil))))))
 (.seq (.seq (.ops (.op (some 10) (.mv (.t 6)) (.op (some 11) (.bin .lss (.t 10) (.c (.int .i64 0))) (.nil))))
 (.cond (.t 11) (.seq (.ops (.op (some 12) (.build [.int .i64 0, .int .i64 0, .int .i64 0, .lst true [], .lst true [], .int .i64 0] []) (.op none (.store 6 (.t 4) (.t 12)) (.op (some 5) (.mv (.c (.bool false))) (.nil)))))
 (.ret)) (.skip)))
 (.seq (.ops (.op (some 13) (.fad 0 (.t 2)) (.op (some 14) (.loadr 1 false (.t 13)) (.op (some 15) (.mv (.t 6)) (.op (some 16) (.iad 6 (.t 14) (.t 15)) (.op (some 17) (.load 6 true (.t 16)) (.op none (.store 6 (.t 4) (.t 17)) (.op (some 5) (.mv (.c (.bool true))) (.nil)))))))))
 (.ret)))))

theorem ok29 : okF Try.prog 29 c29 = true := by kernel_rfl

/-- catacomb/catacombref08.Held -/
def b30_1 : AC := .seq (.seq (.ops (.op (some 7) (.mv (.t 6)) (.op (some 8) (.mv (.t 0)) (.op (some 9) (.len false (.t 8)) (.op (some 10) (.bin .lss (.t 7) (.t 9)) (.nil))))))
 (.cond (.t 10) (.skip) (.exit 0)))
 (.seq (.block 1 (.seq (.ops (.op (some 13) (.mv (.t 0)) (.op (some 14) (.mv (.t 6)) (.op (some 15) (.iad 3 (.t 13) (.t 14)) (.op (some 16) (.fad 2 (.t 15)) (.op (some 17) (.load 1 false (.t 16)) (.op (some 18) (.mv (.t 1)) (.op (some 19) (.bin .eql (.t 17) (.t 18)) (.nil)))))))))
 (.cond (.t 19) (.ops (.op (some 20) (.mv (.t 5)) (.op (some 21) (.bin .add (.t 20) (.c (.int .i64 1))) (.op (some 5) (.mv (.t 21)) (.nil))))) (.skip))))
 (.ops (.op (some 11) (.mv (.t 6)) (.op (some 12) (.bin .add (.t 11) (.c (.int .i64 1))) (.op (some 6) (.mv (.t 12)) (.nil))))))
def c30_1 : AC := b30_1
@[simp] theorem e30_1 {Γ : Tab} {V : Nat → Bool} {ρ : Type} (k : AX → St → Option ρ) (s : St) : eval Γ c30_1 V ρ k s = eval Γ b30_1 V ρ k s := rfl
def c30 : AF := AF.mk 23 [.t 4] (.seq (.ops (.op (some 4) (.mv (.c (.int .i64 0))) (.nil)))
 (.seq (.ops (.op (some 5) (.mv (.c (.int .i64 0))) (.nil)))
 (.seq (.seq (.ops (.op (some 6) (.mv (.c (.int .i64 0))) (.nil)))
 (.block 0 (.loop [5, 6] [(5, 21)] [] [(.exit 0, [5])] c30_1)))
 (.seq (.ops (.op (some 22) (.mv (.t 5)) (.op (some 4) (.mv (.t 22)) (.nil))))
 (.ret)))))

theorem ok30 : okF Try.prog 30 c30 = true := by kernel_rfl

/-- catacomb/catacombref07.SameNode -/
def c31 : AF := AF.mk 45 [.t 4] (.seq (.ops (.op (some 2) (.rbox (.t 0)) (.op (some 3) (.rbox (.t 1)) (.op (some 4) (.mv (.c (.bool false))) (.nil)))))
 (.seq (.seq (.ops (.op (some 5) (.fad 0 (.t 2)) (.op (some 6) (.loadr 1 false (.t 5)) (.op (some 7) (.fad 0 (.t 3)) (.op (some 8) (.loadr 1 false (.t 7)) (.op (some 9) (.bin .neq (.t 6) (.t 8)) (.op (some 10) (.mv (.t 9)) (.sc 16 false 10 11 15 (.op (some 11) (.fad 1 (.t 2)) (.op (some 12) (.loadr 1 false (.t 11)) (.op (some 13) (.fad 1 (.t 3)) (.op (some 14) (.loadr 1 false (.t 13)) (.op (some 15) (.bin .neq (.t 12) (.t 14)) (.nil)))))) (.t 15) (.op (some 17) (.mv (.t 16)) (.sc 23 false 17 18 22 (.op (some 18) (.fad 2 (.t 2)) (.op (some 19) (.loadr 1 false (.t 18)) (.op (some 20) (.fad 2 (.t 3)) (.op (some 21) (.loadr 1 false (.t 20)) (.op (some 22) (.bin .neq (.t 19) (.t 21)) (.nil)))))) (.t 22) (.op (some 24) (.mv (.t 23)) (.sc 30 false 24 25 29 (.op (some 25) (.fad 5 (.t 2)) (.op (some 26) (.loadr 1 false (.t 25)) (.op (some 27) (.fad 5 (.t 3)) (.op (some 28) (.loadr 1 false (.t 27)) (.op (some 29) (.bin .neq (.t 26) (.t 28)) (.nil)))))) (.t 29) (.op (some 31) (.mv (.t 30)) (.sc 39 false 31 32 38 (.op (some 32) (.fad 3 (.t 2)) (.op (some 33) (.loadr 1 false (.t 32)) (.op (some 34) (.bts (.t 33)) (.op (some 35) (.fad 3 (.t 3)) (.op (some 36) (.loadr 1 false (.t 35)) (.op (some 37) (.bts (.t 36)) (.op (some 38) (.bin .neq (.t 34) (.t 37)) (.nil)))))))) (.t 38) (.nil)))))))))))))))
 (.cond (.t 39) (.seq (.ops (.op (some 4) (.mv (.c (.bool false))) (.nil)))
 (.ret)) (.skip)))
 (.seq (.ops (.op (some 40) (.fad 4 (.t 2)) (.op (some 41) (.loadr 1 false (.t 40)) (.op (some 42) (.fad 4 (.t 3)) (.op (some 43) (.loadr 1 false (.t 42)) (.op (some 44) (.call 64 [(.t 41), (.t 43)]) (.op (some 4) (.mv (.t 44)) (.nil))))))))
 (.ret))))

theorem ok31 : okF Try.prog 31 c31 = true := by kernel_rfl

/-- catacomb/hold.Gone -/
def b32_1 : AC := .seq (.ops (.op (some 13) (.bin .lss (.t 12) (.t 11)) (.nil)))
 (.seq (.cond (.t 13) (.skip) (.exit 0))
 (.seq (.block 1 (.seq (.ops (.op (some 14) (.iad 3 (.t 10) (.t 12)) (.op (some 15) (.load 3 true (.t 14)) (.op (some 9) (.alloc [.int .i64 0, .int .i64 0, .int .i64 0]) (.op none (.store 3 (.t 9) (.t 15)) (.nil))))))
 (.seq (.ops (.op (some 16) (.fad 0 (.t 9)) (.op (some 17) (.load 1 false (.t 16)) (.op (some 18) (.mv (.t 2)) (.op (some 19) (.bin .eql (.t 17) (.t 18)) (.nil))))))
 (.cond (.t 19) (.ops (.op (some 21) (.load 3 true (.t 3)) (.op (some 22) (.mv (.t 1)) (.op (some 23) (.mv (.t 2)) (.op (some 24) (.fad 1 (.t 9)) (.op (some 25) (.load 1 false (.t 24)) (.op (some 26) (.call 18 [(.t 21), (.t 22), (.t 23), (.t 25)]) (.op (some 20) (.mv (.t 26)) (.op (some 27) (.ext (.t 20) 0) (.op (some 28) (.ext (.t 20) 1) (.op (some 29) (.ext (.t 20) 2) (.op none (.store 3 (.t 3) (.t 27)) (.op (some 1) (.mv (.t 28)) (.nil)))))))))))))) (.skip)))))
 (.ops (.op (some 30) (.bin .add (.t 12) (.c (.int .i64 1))) (.op (some 12) (.mv (.t 30)) (.nil))))))
def c32_1 : AC := b32_1
@[simp] theorem e32_1 {Γ : Tab} {V : Nat → Bool} {ρ : Type} (k : AX → St → Option ρ) (s : St) : eval Γ c32_1 V ρ k s = eval Γ b32_1 V ρ k s := rfl
def c32 : AF := AF.mk 33 [.cell 6 3 true, .t 7] (.seq (.ops (.op (some 3) (.box (.t 0)) (.op (some 6) (.alloc [.lst true [], .int .i64 0, .int .i64 0]) (.op (some 7) (.mv (.c (.lst true []))) (.nil)))))
 (.seq (.seq (.ops (.op (some 10) (.mv (.t 1)) (.op (some 11) (.len false (.t 10)) (.op (some 12) (.mv (.c (.int .i64 0))) (.nil)))))
 (.block 0 (.loop [1, 12] [(1, 1), (9, 9), (12, 30)] [] [(.exit 0, [1])] c32_1)))
 (.seq (.ops (.op (some 31) (.load 3 true (.t 3)) (.op (some 32) (.mv (.t 1)) (.op none (.store 3 (.t 6) (.t 31)) (.op (some 7) (.mv (.t 32)) (.nil))))))
 (.ret))))

theorem ok32 : okF Try.prog 32 c32 = true := by kernel_rfl

/-- catacomb/catacombref08.Swept -/
def b33_1 : AC := .seq (.seq (.ops (.op (some 11) (.mv (.t 6)) (.op (some 12) (.mv (.t 5)) (.op (some 13) (.len false (.t 12)) (.op (some 14) (.bin .lss (.t 11) (.t 13)) (.nil))))))
 (.cond (.t 14) (.skip) (.exit 0)))
 (.seq (.block 1 (.seq (.ops (.op (some 17) (.mv (.t 1)) (.op (some 18) (.mv (.t 5)) (.op (some 19) (.mv (.t 6)) (.op (some 20) (.iad 1 (.t 18) (.t 19)) (.op (some 21) (.load 1 false (.t 20)) (.op (some 22) (.call 30 [(.t 17), (.t 21)]) (.op (some 23) (.bin .eql (.t 22) (.c (.int .i64 0))) (.nil)))))))))
 (.cond (.t 23) (.seq (.ops (.op (some 25) (.load 3 true (.t 2)) (.op (some 26) (.mv (.t 5)) (.op (some 27) (.mv (.t 6)) (.op (some 28) (.iad 1 (.t 26) (.t 27)) (.op (some 29) (.load 1 false (.t 28)) (.op (some 30) (.callp 65 [(.t 25), (.t 29)]) (.op (some 24) (.mv (.t 30)) (.op (some 31) (.ext (.t 24) 0) (.op (some 32) (.ext (.t 24) 1) (.op (some 7) (.alloc [.lst true [], .int .i64 0, .int .i64 0]) (.op none (.store 3 (.t 7) (.t 31)) (.op (some 8) (.mv (.t 32)) (.nil))))))))))))))
 (.ops (.op (some 33) (.load 3 true (.t 7)) (.op none (.store 3 (.t 2) (.t 33)) (.nil))))) (.skip))))
 (.ops (.op (some 15) (.mv (.t 6)) (.op (some 16) (.bin .add (.t 15) (.c (.int .i64 1))) (.op (some 6) (.mv (.t 16)) (.nil))))))
def c33_1 : AC := b33_1
@[simp] theorem e33_1 {Γ : Tab} {V : Nat → Bool} {ρ : Type} (k : AX → St → Option ρ) (s : St) : eval Γ c33_1 V ρ k s = eval Γ b33_1 V ρ k s := rfl
def c33 : AF := AF.mk 35 [.cell 4 3 true] (.seq (.ops (.op (some 2) (.box (.t 0)) (.op (some 4) (.alloc [.lst true [], .int .i64 0, .int .i64 0]) (.nil))))
 (.seq (.ops (.op (some 9) (.load 3 true (.t 2)) (.op (some 10) (.call 25 [(.t 9)]) (.op (some 5) (.mv (.t 10)) (.nil)))))
 (.seq (.seq (.ops (.op (some 6) (.mv (.c (.int .i64 0))) (.nil)))
 (.block 0 (.loop [6] [(6, 8), (11, 33)] [] [(.exit 0, [])] c33_1)))
 (.seq (.ops (.op (some 34) (.load 3 true (.t 2)) (.op none (.store 3 (.t 4) (.t 34)) (.nil))))
 (.ret)))))

theorem ok33 : okF Try.prog 33 c33 = true := by kernel_rfl

/-- catacomb/catacombref07.Add -/
def c34 : AF := AF.mk 60 [.cell 8 3 true, .t 9, .t 10] (.seq (.ops (.op (some 4) (.box (.t 0)) (.op (some 8) (.alloc [.lst true [], .int .i64 0, .int .i64 0]) (.op (some 9) (.mv (.c (.int .i64 0))) (.op (some 10) (.mv (.c (.int .i64 0))) (.nil))))))
 (.seq (.seq (.ops (.op (some 13) (.mv (.t 3)) (.op (some 14) (.bin .neq (.t 13) (.c (.int .i64 1))) (.op (some 15) (.mv (.t 14)) (.sc 18 true 15 16 17 (.op (some 16) (.mv (.t 3)) (.op (some 17) (.bin .neq (.t 16) (.c (.int .i64 2))) (.nil))) (.t 17) (.nil))))))
 (.cond (.t 18) (.seq (.ops (.op (some 19) (.load 3 true (.t 4)) (.op none (.store 3 (.t 8) (.t 19)) (.op (some 9) (.mv (.c (.int .i64 0))) (.op (some 10) (.mv (.c (.int .i64 1))) (.nil))))))
 (.ret)) (.skip)))
 (.seq (.ops (.op (some 20) (.load 3 true (.t 4)) (.op (some 21) (.mv (.t 1)) (.op (some 22) (.mv (.t 2)) (.op (some 23) (.call 66 [(.t 20), (.t 21), (.t 22)]) (.op (some 11) (.mv (.t 23)) (.nil)))))))
 (.seq (.seq (.ops (.op (some 24) (.mv (.t 11)) (.op (some 25) (.bin .neq (.t 24) (.c (.int .i64 0))) (.nil))))
 (.cond (.t 25) (.seq (.ops (.op (some 26) (.load 3 true (.t 4)) (.op (some 27) (.mv (.t 11)) (.op none (.store 3 (.t 8) (.t 26)) (.op (some 9) (.mv (.c (.int .i64 0))) (.op (some 10) (.mv (.t 27)) (.nil)))))))
 (.ret)) (.skip)))
 (.seq (.seq (.ops (.op (some 28) (.fad 0 (.t 4)) (.op (some 29) (.load 1 false (.t 28)) (.op (some 30) (.len false (.t 29)) (.op (some 31) (.bin .geq (.t 30) (.c (.int .i64 200))) (.op (some 32) (.mv (.t 31)) (.sc 36 false 32 33 35 (.op (some 33) (.fad 1 (.t 4)) (.op (some 34) (.load 1 false (.t 33)) (.op (some 35) (.bin .geq (.t 34) (.c (.int .i64 1099511627776))) (.nil)))) (.t 35) (.nil))))))))
 (.cond (.t 36) (.seq (.ops (.op (some 37) (.load 3 true (.t 4)) (.op none (.store 3 (.t 8) (.t 37)) (.op (some 9) (.mv (.c (.int .i64 0))) (.op (some 10) (.mv (.c (.int .i64 76))) (.nil))))))
 (.ret)) (.skip)))
 (.seq (.ops (.op (some 38) (.fad 1 (.t 4)) (.op (some 39) (.load 1 false (.t 38)) (.op (some 40) (.mv (.t 3)) (.op (some 41) (.build [.int .i64 0, .int .i64 0, .int .i64 0, .lst true [], .lst true [], .int .i64 0] [(0, 1, (.t 39)), (1, 1, (.t 40)), (2, 1, (.c (.int .i64 1)))]) (.op (some 12) (.alloc [.int .i64 0, .int .i64 0, .int .i64 0, .lst true [], .lst true [], .int .i64 0]) (.op none (.store 6 (.t 12) (.t 41)) (.nil))))))))
 (.seq (.seq (.ops (.op (some 42) (.mv (.t 3)) (.op (some 43) (.bin .eql (.t 42) (.c (.int .i64 2))) (.nil))))
 (.cond (.t 43) (.ops (.op (some 44) (.mv (.t 1)) (.op (some 45) (.fad 5 (.t 12)) (.op none (.store 1 (.t 45) (.t 44)) (.nil))))) (.skip)))
 (.seq (.ops (.op (some 46) (.fad 1 (.t 4)) (.op (some 47) (.load 1 false (.t 46)) (.op (some 48) (.bin .add (.t 47) (.c (.int .i64 1))) (.op (some 49) (.fad 1 (.t 4)) (.op none (.store 1 (.t 49) (.t 48)) (.nil)))))))
 (.seq (.ops (.op (some 50) (.load 3 true (.t 4)) (.op (some 51) (.load 6 true (.t 12)) (.op (some 52) (.callp 68 [(.t 50), (.t 51)]) (.op (some 53) (.mv (.t 1)) (.op (some 54) (.mv (.t 2)) (.op (some 55) (.fad 0 (.t 12)) (.op (some 56) (.load 1 false (.t 55)) (.op (some 57) (.callp 67 [(.t 52), (.t 53), (.t 54), (.t 56)]) (.op (some 58) (.fad 0 (.t 12)) (.op (some 59) (.loadx 1 false (.t 58) 8) (.op none (.storer 3 (.t 8) (.t 57)) (.op (some 9) (.mv (.t 59)) (.op (some 10) (.mv (.c (.int .i64 0))) (.nil)))))))))))))))
 (.ret))))))))))

theorem ok34 : okF Try.prog 34 c34 = true := by kernel_rfl

/-- catacomb/catacombref07.New -/
def c35 : AF := AF.mk 4 [.cell 0 3 true] (.seq (.ops (.op (some 0) (.alloc [.lst true [], .int .i64 0, .int .i64 0]) (.nil)))
 (.seq (.ops (.op (some 1) (.build [.int .i64 0, .int .i64 0, .int .i64 0, .lst true [], .lst true [], .int .i64 0] [(0, 1, (.c (.int .i64 1))), (1, 1, (.c (.int .i64 2))), (5, 1, (.c (.int .i64 1)))]) (.op (some 2) (.bslh 6 (.agg [.int .i64 0, .int .i64 0, .int .i64 0, .lst true [], .lst true [], .int .i64 0]) 1 [(0, (.t 1))]) (.op (some 3) (.build [.lst true [], .int .i64 0, .int .i64 0] [(0, 1, (.t 2)), (1, 1, (.c (.int .i64 2))), (2, 1, (.c (.int .i64 1)))]) (.op none (.store 3 (.t 0) (.t 3)) (.nil))))))
 (.ret)))

theorem ok35 : okF Try.prog 35 c35 = true := by kernel_rfl

/-- catacomb/catacombref07.Un -/
def c36 : AF := AF.mk 42 [.cell 6 3 true, .t 7, .t 8] (.seq (.ops (.op (some 3) (.rbox (.t 0)) (.op (some 6) (.alloc [.lst true [], .int .i64 0, .int .i64 0]) (.op (some 7) (.mv (.c (.int .i64 0))) (.op (some 8) (.mv (.c (.int .i64 0))) (.nil))))))
 (.seq (.ops (.op (some 14) (.loadr 3 true (.t 3)) (.op (some 15) (.mv (.t 1)) (.op (some 16) (.mv (.t 2)) (.op (some 17) (.call 69 [(.t 14), (.t 15), (.t 16)]) (.op (some 13) (.mv (.t 17)) (.op (some 18) (.ext (.t 13) 0) (.op (some 19) (.ext (.t 13) 1) (.op (some 9) (.mv (.t 18)) (.op (some 10) (.mv (.t 19)) (.nil)))))))))))
 (.seq (.seq (.ops (.op (some 20) (.mv (.t 10)) (.op (some 21) (.bin .neq (.t 20) (.c (.int .i64 0))) (.nil))))
 (.cond (.t 21) (.seq (.ops (.op (some 22) (.loadr 3 true (.t 3)) (.op (some 23) (.mv (.t 10)) (.op none (.store 3 (.t 6) (.t 22)) (.op (some 7) (.mv (.c (.int .i64 0))) (.op (some 8) (.mv (.t 23)) (.nil)))))))
 (.ret)) (.skip)))
 (.seq (.ops (.op (some 25) (.loadr 3 true (.t 3)) (.op (some 26) (.mv (.t 9)) (.op (some 27) (.call 29 [(.t 25), (.t 26)]) (.op (some 24) (.mv (.t 27)) (.op (some 28) (.ext (.t 24) 0) (.op (some 29) (.ext (.t 24) 1) (.op (some 11) (.alloc [.int .i64 0, .int .i64 0, .int .i64 0, .lst true [], .lst true [], .int .i64 0]) (.op none (.store 6 (.t 11) (.t 28)) (.op (some 12) (.mv (.t 29)) (.nil)))))))))))
 (.seq (.seq (.ops (.op (some 30) (.fad 4 (.t 11)) (.op (some 31) (.load 1 false (.t 30)) (.op (some 32) (.len false (.t 31)) (.op (some 33) (.bin .gtr (.t 32) (.c (.int .i64 0))) (.nil))))))
 (.cond (.t 33) (.seq (.ops (.op (some 34) (.loadr 3 true (.t 3)) (.op none (.store 3 (.t 6) (.t 34)) (.op (some 7) (.mv (.c (.int .i64 0))) (.op (some 8) (.mv (.c (.int .i64 74))) (.nil))))))
 (.ret)) (.skip)))
 (.seq (.ops (.op (some 35) (.loadr 3 true (.t 3)) (.op (some 36) (.mv (.t 1)) (.op (some 37) (.mv (.t 2)) (.op (some 38) (.call 71 [(.t 35), (.t 36), (.t 37)]) (.op (some 39) (.mv (.t 9)) (.op (some 40) (.call 70 [(.t 38), (.t 39)]) (.op (some 41) (.mv (.t 9)) (.op none (.store 3 (.t 6) (.t 40)) (.op (some 7) (.mv (.t 41)) (.op (some 8) (.mv (.c (.int .i64 0))) (.nil))))))))))))
 (.ret)))))))

theorem ok36 : okF Try.prog 36 c36 = true := by kernel_rfl

/-- catacomb/catacomblaw07.Great -/
def b37_1 : AC := .seq (.seq (.ops (.op (some 7) (.mv (.t 3)) (.op (some 8) (.mv (.t 0)) (.op (some 9) (.len false (.t 8)) (.op (some 10) (.bin .lss (.t 7) (.t 9)) (.nil))))))
 (.cond (.t 10) (.skip) (.exit 0)))
 (.seq (.block 1 (.seq (.ops (.op (some 13) (.mv (.t 0)) (.op (some 14) (.mv (.t 3)) (.op (some 15) (.iad 6 (.t 13) (.t 14)) (.op (some 16) (.fad 5 (.t 15)) (.op (some 17) (.load 1 false (.t 16)) (.op (some 18) (.len false (.t 17)) (.op (some 19) (.bin .gtr (.t 18) (.c (.int .i64 5000))) (.nil)))))))))
 (.cond (.t 19) (.seq (.ops (.op (some 2) (.mv (.c (.bool true))) (.nil)))
 (.ret)) (.skip))))
 (.ops (.op (some 11) (.mv (.t 3)) (.op (some 12) (.bin .add (.t 11) (.c (.int .i64 1))) (.op (some 3) (.mv (.t 12)) (.nil))))))
def c37_1 : AC := b37_1
@[simp] theorem e37_1 {Γ : Tab} {V : Nat → Bool} {ρ : Type} (k : AX → St → Option ρ) (s : St) : eval Γ c37_1 V ρ k s = eval Γ b37_1 V ρ k s := rfl
def c37 : AF := AF.mk 20 [.t 2] (.seq (.ops (.op (some 2) (.mv (.c (.bool false))) (.nil)))
 (.seq (.seq (.ops (.op (some 4) (.mv (.t 0)) (.op (some 5) (.len false (.t 4)) (.op (some 6) (.bin .gtr (.t 5) (.c (.int .i64 60))) (.nil)))))
 (.cond (.t 6) (.seq (.ops (.op (some 2) (.mv (.c (.bool true))) (.nil)))
 (.ret)) (.skip)))
 (.seq (.seq (.ops (.op (some 3) (.mv (.c (.int .i64 0))) (.nil)))
 (.block 0 (.loop [3] [(2, 3), (7, 19)] [] [(.exit 0, []), (.ret, [2])] c37_1)))
 (.seq (.ops (.op (some 2) (.mv (.c (.bool false))) (.nil)))
 (.ret)))))

theorem ok37 : okF Try.prog 37 c37 = true := by kernel_rfl

/-- (catacomb/hold.key).right -/
def c38 : AF := AF.mk 21 [.t 2] (.seq (.ops (.op (some 1) (.box (.t 0)) (.op (some 2) (.mv (.c (.bool false))) (.nil))))
 (.seq (.ops (.op (some 3) (.iada 2 1 (.t 1) (.c (.int .i64 0))) (.op (some 4) (.load 1 false (.t 3)) (.op (some 5) (.bin .geq (.t 4) (.c (.int .i64 0))) (.op (some 6) (.mv (.t 5)) (.sc 10 true 6 7 9 (.op (some 7) (.iada 2 1 (.t 1) (.c (.int .i64 0))) (.op (some 8) (.load 1 false (.t 7)) (.op (some 9) (.bin .lss (.t 8) (.c (.int .i64 16))) (.nil)))) (.t 9) (.op (some 11) (.mv (.t 10)) (.sc 15 true 11 12 14 (.op (some 12) (.iada 2 1 (.t 1) (.c (.int .i64 1))) (.op (some 13) (.load 1 false (.t 12)) (.op (some 14) (.bin .geq (.t 13) (.c (.int .i64 0))) (.nil)))) (.t 14) (.op (some 16) (.mv (.t 15)) (.sc 20 true 16 17 19 (.op (some 17) (.iada 2 1 (.t 1) (.c (.int .i64 1))) (.op (some 18) (.load 1 false (.t 17)) (.op (some 19) (.bin .lss (.t 18) (.c (.int .i64 100))) (.nil)))) (.t 19) (.op (some 2) (.mv (.t 20)) (.nil))))))))))))
 (.ret)))

theorem ok38 : okF Try.prog 38 c38 = true := by kernel_rfl

/-- catacomb/tree.Get -/
def c39 : AF := AF.mk 13 [.cell 4 6 true, .t 5] (.seq (.ops (.op (some 2) (.rbox (.t 0)) (.op (some 4) (.alloc [.int .i64 0, .int .i64 0, .int .i64 0, .lst true [], .lst true [], .int .i64 0]) (.op (some 5) (.mv (.c (.bool false))) (.nil)))))
 (.seq (.ops (.op (some 6) (.loadr 3 true (.t 2)) (.op (some 7) (.build [.lst true [], .int .i64 0, .int .i64 0] [(0, 3, (.t 6))]) (.op (some 8) (.box (.t 7)) (.op (some 9) (.mv (.t 1)) (.op (some 10) (.call 72 [(.t 8), (.t 9)]) (.op (some 11) (.ext (.t 10) 0) (.op (some 12) (.ext (.t 10) 1) (.op none (.store 6 (.t 4) (.t 11)) (.op (some 5) (.mv (.t 12)) (.nil)))))))))))
 (.ret)))

theorem ok39 : okF Try.prog 39 c39 = true := by kernel_rfl

/-- slices.BinarySearchFunc[[]catacomb/api.Hold,catacomb/api.Hold,catacomb/hold.key] -/
def b40_1 : AC := .seq (.seq (.ops (.op (some 15) (.mv (.t 9)) (.op (some 16) (.mv (.t 10)) (.op (some 17) (.bin .lss (.t 15) (.t 16)) (.nil)))))
 (.cond (.t 17) (.skip) (.exit 0)))
 (.block 1 (.seq (.ops (.op (some 18) (.mv (.t 9)) (.op (some 19) (.mv (.t 10)) (.op (some 20) (.bin .add (.t 18) (.t 19)) (.op (some 21) (.conv .u64 (.t 20)) (.op (some 22) (.bin .shr (.t 21) (.c (.int .u64 1))) (.op (some 23) (.conv .i64 (.t 22)) (.op (some 11) (.mv (.t 23)) (.nil)))))))))
 (.seq (.ops (.op (some 24) (.mv (.t 2)) (.op (some 25) (.mv (.t 0)) (.op (some 26) (.mv (.t 11)) (.op (some 27) (.iad 3 (.t 25) (.t 26)) (.op (some 28) (.load 3 true (.t 27)) (.op (some 29) (.loadr 2 true (.t 4)) (.op (some 30) (.callr (.t 24) [(.t 28), (.t 29)]) (.op (some 31) (.bin .lss (.t 30) (.c (.int .i64 0))) (.nil))))))))))
 (.cond (.t 31) (.ops (.op (some 32) (.mv (.t 11)) (.op (some 33) (.bin .add (.t 32) (.c (.int .i64 1))) (.op (some 9) (.mv (.t 33)) (.nil))))) (.ops (.op (some 34) (.mv (.t 11)) (.op (some 10) (.mv (.t 34)) (.nil))))))))
def c40_1 : AC := b40_1
@[simp] theorem e40_1 {Γ : Tab} {V : Nat → Bool} {ρ : Type} (k : AX → St → Option ρ) (s : St) : eval Γ c40_1 V ρ k s = eval Γ b40_1 V ρ k s := rfl
def c40 : AF := AF.mk 49 [.t 6, .t 7] (.seq (.ops (.op (some 4) (.rbox (.t 1)) (.op (some 6) (.mv (.c (.int .i64 0))) (.op (some 7) (.mv (.c (.bool false))) (.nil)))))
 (.seq (.ops (.op (some 12) (.mv (.t 0)) (.op (some 13) (.len false (.t 12)) (.op (some 8) (.mv (.t 13)) (.nil)))))
 (.seq (.ops (.op (some 14) (.mv (.t 8)) (.op (some 9) (.mv (.c (.int .i64 0))) (.op (some 10) (.mv (.t 14)) (.nil)))))
 (.seq (.block 0 (.loop [9, 10] [(9, 11), (15, 34)] [] [(.exit 0, [9])] c40_1))
 (.seq (.ops (.op (some 35) (.mv (.t 9)) (.op (some 36) (.mv (.t 9)) (.op (some 37) (.mv (.t 8)) (.op (some 38) (.bin .lss (.t 36) (.t 37)) (.op (some 39) (.mv (.t 38)) (.sc 48 true 39 40 47 (.op (some 40) (.mv (.t 2)) (.op (some 41) (.mv (.t 0)) (.op (some 42) (.mv (.t 9)) (.op (some 43) (.iad 3 (.t 41) (.t 42)) (.op (some 44) (.load 3 true (.t 43)) (.op (some 45) (.loadr 2 true (.t 4)) (.op (some 46) (.callr (.t 40) [(.t 44), (.t 45)]) (.op (some 47) (.bin .eql (.t 46) (.c (.int .i64 0))) (.nil))))))))) (.t 47) (.op (some 6) (.mv (.t 35)) (.op (some 7) (.mv (.t 48)) (.nil))))))))))
 (.ret))))))

theorem ok40 : okF Try.prog 40 c40 = true := by kernel_rfl

/-- (catacomb/hold.key).against -/
def c41 : AF := AF.mk 22 [.t 6] (.seq (.ops (.op (some 3) (.box (.t 0)) (.op (some 4) (.rbox (.t 1)) (.op (some 5) (.rbox (.t 2)) (.op (some 6) (.mv (.c (.int .i64 0))) (.nil))))))
 (.seq (.ops (.op (some 8) (.loadr 3 true (.t 4)) (.op (some 9) (.call 57 [(.t 8)]) (.op (some 7) (.alloc [.int .i64 0, .int .i64 0]) (.op none (.store 2 (.t 7) (.t 9)) (.nil))))))
 (.seq (.ops (.op (some 10) (.iada 2 1 (.t 7) (.c (.int .i64 0))) (.op (some 11) (.load 1 false (.t 10)) (.op (some 12) (.iada 2 1 (.t 3) (.c (.int .i64 0))) (.op (some 13) (.load 1 false (.t 12)) (.op (some 14) (.callp 74 [(.t 11), (.t 13)]) (.op (some 15) (.iada 2 1 (.t 7) (.c (.int .i64 1))) (.op (some 16) (.load 1 false (.t 15)) (.op (some 17) (.iada 2 1 (.t 3) (.c (.int .i64 1))) (.op (some 18) (.load 1 false (.t 17)) (.op (some 19) (.callp 74 [(.t 16), (.t 18)]) (.op (some 20) (.bsl 1 (.int .i64 0) 2 [(0, (.t 14)), (1, (.t 19))]) (.op (some 21) (.callp 73 [(.t 20)]) (.op (some 6) (.mv (.t 21)) (.nil)))))))))))))))
 (.ret))))

theorem ok41 : okF Try.prog 41 c41 = true := by kernel_rfl

/-- catacomb/hold.orphan -/
def c42 : AF := AF.mk 11 [.t 2] (.seq (.ops (.op (some 1) (.rbox (.t 0)) (.op (some 2) (.mv (.c (.bool false))) (.nil))))
 (.seq (.ops (.op (some 3) (.fad 1 (.t 1)) (.op (some 4) (.loadr 1 false (.t 3)) (.op (some 5) (.bin .eql (.t 4) (.c (.int .i64 1))) (.op (some 6) (.mv (.t 5)) (.sc 10 true 6 7 9 (.op (some 7) (.fad 2 (.t 1)) (.op (some 8) (.loadr 1 false (.t 7)) (.op (some 9) (.bin .eql (.t 8) (.c (.int .i64 0))) (.nil)))) (.t 9) (.op (some 2) (.mv (.t 10)) (.nil))))))))
 (.ret)))

theorem ok42 : okF Try.prog 42 c42 = true := by kernel_rfl

/-- slices.IndexFunc[[]catacomb/api.Hold,catacomb/api.Hold] -/
def b45_1 : AC := .seq (.ops (.op (some 9) (.bin .lss (.t 8) (.t 7)) (.nil)))
 (.seq (.cond (.t 9) (.skip) (.exit 0))
 (.seq (.block 1 (.seq (.ops (.op (some 10) (.mv (.t 8)) (.op (some 5) (.mv (.t 10)) (.nil))))
 (.seq (.ops (.op (some 11) (.mv (.t 1)) (.op (some 12) (.mv (.t 0)) (.op (some 13) (.mv (.t 5)) (.op (some 14) (.iad 3 (.t 12) (.t 13)) (.op (some 15) (.load 3 true (.t 14)) (.op (some 16) (.callv (.t 11) [(.t 15)]) (.nil))))))))
 (.cond (.t 16) (.seq (.ops (.op (some 17) (.mv (.t 5)) (.op (some 4) (.mv (.t 17)) (.nil))))
 (.ret)) (.skip)))))
 (.ops (.op (some 18) (.bin .add (.t 8) (.c (.int .i64 1))) (.op (some 8) (.mv (.t 18)) (.nil))))))
def c45_1 : AC := b45_1
@[simp] theorem e45_1 {Γ : Tab} {V : Nat → Bool} {ρ : Type} (k : AX → St → Option ρ) (s : St) : eval Γ c45_1 V ρ k s = eval Γ b45_1 V ρ k s := rfl
def c45 : AF := AF.mk 19 [.t 4] (.seq (.ops (.op (some 4) (.mv (.c (.int .i64 0))) (.nil)))
 (.seq (.seq (.ops (.op (some 6) (.mv (.t 0)) (.op (some 7) (.len false (.t 6)) (.op (some 8) (.mv (.c (.int .i64 0))) (.nil)))))
 (.block 0 (.loop [8] [(4, 5), (8, 18)] [] [(.exit 0, []), (.ret, [4])] c45_1)))
 (.seq (.ops (.op (some 4) (.mv (.c (.int .i64 (-1)))) (.nil)))
 (.ret))))

theorem ok45 : okF Try.prog 45 c45 = true := by kernel_rfl

/-- (catacomb/hold.key).is -/
def c46 : AF := AF.mk 9 [.t 4] (.seq (.ops (.op (some 2) (.rbox (.t 0)) (.op (some 3) (.rbox (.t 1)) (.op (some 4) (.mv (.c (.bool false))) (.nil)))))
 (.seq (.ops (.op (some 5) (.loadr 3 true (.t 3)) (.op (some 6) (.callp 57 [(.t 5)]) (.op (some 7) (.loadr 2 true (.t 2)) (.op (some 8) (.seq false [0, 0] (.t 6) (.t 7)) (.op (some 4) (.mv (.t 8)) (.nil)))))))
 (.ret)))

theorem ok46 : okF Try.prog 46 c46 = true := by kernel_rfl

/-- catacomb/hold.held -/
def c48 : AF := AF.mk 8 [.t 4] (.seq (.ops (.op (some 3) (.box (.t 1)) (.op (some 4) (.mv (.c (.bool false))) (.nil))))
 (.seq (.ops (.op (some 5) (.mv (.t 0)) (.op (some 6) (.mkf (.func 78) [] [(.t 3)]) (.op (some 7) (.call 77 [(.t 5), (.t 6)]) (.op (some 4) (.mv (.t 7)) (.nil))))))
 (.ret)))

theorem ok48 : okF Try.prog 48 c48 = true := by kernel_rfl

/-- catacomb/tree.Free -/
def c49 : AF := AF.mk 39 [.cell 4 3 true, .t 5] (.seq (.ops (.op (some 2) (.rbox (.t 0)) (.op (some 4) (.alloc [.lst true [], .int .i64 0, .int .i64 0]) (.op (some 5) (.mv (.c (.int .i64 0))) (.nil)))))
 (.seq (.ops (.op (some 9) (.loadr 3 true (.t 2)) (.op (some 10) (.build [.lst true [], .int .i64 0, .int .i64 0] [(0, 3, (.t 9))]) (.op (some 11) (.box (.t 10)) (.op (some 6) (.mv (.t 11)) (.nil))))))
 (.seq (.ops (.op (some 13) (.mv (.t 6)) (.op (some 14) (.mv (.t 1)) (.op (some 15) (.call 72 [(.t 13), (.t 14)]) (.op (some 12) (.mv (.t 15)) (.op (some 16) (.ext (.t 12) 0) (.op (some 17) (.ext (.t 12) 1) (.op (some 7) (.alloc [.int .i64 0, .int .i64 0, .int .i64 0, .lst true [], .lst true [], .int .i64 0]) (.op none (.store 6 (.t 7) (.t 16)) (.op (some 8) (.mv (.t 17)) (.nil)))))))))))
 (.seq (.block 0 (.seq (.ops (.op (some 19) (.mv (.t 8)) (.op (some 20) (.un .not (.t 19)) (.op (some 18) (.mv (.t 20)) (.nil)))))
 (.cond (.t 18) (.seq (.ops (.op (some 21) (.loadr 3 true (.t 2)) (.op none (.store 3 (.t 4) (.t 21)) (.op (some 5) (.mv (.c (.int .i64 70))) (.nil)))))
 (.ret)) (.seq (.ops (.op (some 23) (.fad 1 (.t 7)) (.op (some 24) (.load 1 false (.t 23)) (.op (some 25) (.bin .eql (.t 24) (.c (.int .i64 2))) (.op (some 22) (.mv (.t 25)) (.nil))))))
 (.cond (.t 22) (.seq (.ops (.op (some 26) (.loadr 3 true (.t 2)) (.op none (.store 3 (.t 4) (.t 26)) (.op (some 5) (.mv (.c (.int .i64 72))) (.nil)))))
 (.ret)) (.seq (.ops (.op (some 28) (.fad 2 (.t 7)) (.op (some 29) (.load 1 false (.t 28)) (.op (some 30) (.bin .gtr (.t 29) (.c (.int .i64 0))) (.op (some 27) (.mv (.t 30)) (.nil))))))
 (.cond (.t 27) (.seq (.ops (.op (some 31) (.loadr 3 true (.t 2)) (.op none (.store 3 (.t 4) (.t 31)) (.op (some 5) (.mv (.c (.int .i64 71))) (.nil)))))
 (.ret)) (.skip))))))))
 (.seq (.ops (.op (some 32) (.mv (.t 6)) (.op (some 33) (.mv (.t 1)) (.op (some 34) (.call 79 [(.t 32), (.t 33)]) (.nil)))))
 (.seq (.ops (.op (some 35) (.mv (.t 6)) (.op (some 36) (.nck (.t 35)) (.op (some 37) (.fad 0 (.t 36)) (.op (some 38) (.load 3 true (.t 37)) (.op none (.store 3 (.t 4) (.t 38)) (.op (some 5) (.mv (.c (.int .i64 0))) (.nil))))))))
 (.ret)))))))

theorem ok49 : okF Try.prog 49 c49 = true := by kernel_rfl

/-- catacomb/catacombref07.SameNodes -/
def b50_1 : AC := .seq (.seq (.ops (.op (some 11) (.mv (.t 5)) (.op (some 12) (.mv (.t 0)) (.op (some 13) (.len false (.t 12)) (.op (some 14) (.bin .lss (.t 11) (.t 13)) (.nil))))))
 (.cond (.t 14) (.skip) (.exit 0)))
 (.seq (.block 1 (.seq (.ops (.op (some 17) (.mv (.t 0)) (.op (some 18) (.mv (.t 5)) (.op (some 19) (.iad 6 (.t 17) (.t 18)) (.op (some 20) (.load 6 true (.t 19)) (.op (some 21) (.mv (.t 1)) (.op (some 22) (.mv (.t 5)) (.op (some 23) (.iad 6 (.t 21) (.t 22)) (.op (some 24) (.load 6 true (.t 23)) (.op (some 25) (.callp 31 [(.t 20), (.t 24)]) (.op (some 26) (.un .not (.t 25)) (.nil))))))))))))
 (.cond (.t 26) (.seq (.ops (.op (some 4) (.mv (.c (.bool false))) (.nil)))
 (.ret)) (.skip))))
 (.ops (.op (some 15) (.mv (.t 5)) (.op (some 16) (.bin .add (.t 15) (.c (.int .i64 1))) (.op (some 5) (.mv (.t 16)) (.nil))))))
def c50_1 : AC := b50_1
@[simp] theorem e50_1 {Γ : Tab} {V : Nat → Bool} {ρ : Type} (k : AX → St → Option ρ) (s : St) : eval Γ c50_1 V ρ k s = eval Γ b50_1 V ρ k s := rfl
def c50 : AF := AF.mk 27 [.t 4] (.seq (.ops (.op (some 4) (.mv (.c (.bool false))) (.nil)))
 (.seq (.seq (.ops (.op (some 6) (.mv (.t 0)) (.op (some 7) (.len false (.t 6)) (.op (some 8) (.mv (.t 1)) (.op (some 9) (.len false (.t 8)) (.op (some 10) (.bin .neq (.t 7) (.t 9)) (.nil)))))))
 (.cond (.t 10) (.seq (.ops (.op (some 4) (.mv (.c (.bool false))) (.nil)))
 (.ret)) (.skip)))
 (.seq (.seq (.ops (.op (some 5) (.mv (.c (.int .i64 0))) (.nil)))
 (.block 0 (.loop [5] [(4, 5), (11, 26)] [] [(.exit 0, []), (.ret, [4])] c50_1)))
 (.seq (.ops (.op (some 4) (.mv (.c (.bool true))) (.nil)))
 (.ret)))))

theorem ok50 : okF Try.prog 50 c50 = true := by kernel_rfl

/-- catacomb/catacomblaw07.Made -/
def b51_1 : AC := .seq (.seq (.ops (.op (some 9) (.mv (.t 4)) (.op (some 10) (.mv (.t 0)) (.op (some 11) (.len false (.t 10)) (.op (some 12) (.bin .lss (.t 9) (.t 11)) (.nil))))))
 (.cond (.t 12) (.skip) (.exit 0)))
 (.seq (.block 1 (.seq (.ops (.op (some 16) (.load 3 true (.t 3)) (.op (some 17) (.mv (.t 0)) (.op (some 18) (.mv (.t 4)) (.op (some 19) (.iad 6 (.t 17) (.t 18)) (.op (some 20) (.load 6 true (.t 19)) (.op (some 21) (.callp 80 [(.t 16), (.t 20)]) (.op (some 15) (.mv (.t 21)) (.op (some 22) (.ext (.t 15) 0) (.op (some 23) (.ext (.t 15) 1) (.op (some 24) (.ext (.t 15) 2) (.op (some 5) (.alloc [.lst true [], .int .i64 0, .int .i64 0]) (.op none (.store 3 (.t 5) (.t 22)) (.op (some 6) (.mv (.t 23)) (.op (some 7) (.mv (.t 24)) (.nil))))))))))))))))
 (.ops (.op (some 25) (.load 3 true (.t 5)) (.op none (.store 3 (.t 3) (.t 25)) (.nil))))))
 (.ops (.op (some 13) (.mv (.t 4)) (.op (some 14) (.bin .add (.t 13) (.c (.int .i64 1))) (.op (some 4) (.mv (.t 14)) (.nil))))))
def c51_1 : AC := b51_1
@[simp] theorem e51_1 {Γ : Tab} {V : Nat → Bool} {ρ : Type} (k : AX → St → Option ρ) (s : St) : eval Γ c51_1 V ρ k s = eval Γ b51_1 V ρ k s := rfl
def c51 : AF := AF.mk 27 [.cell 2 3 true] (.seq (.ops (.op (some 2) (.alloc [.lst true [], .int .i64 0, .int .i64 0]) (.nil)))
 (.seq (.ops (.op (some 8) (.call 35 []) (.op (some 3) (.alloc [.lst true [], .int .i64 0, .int .i64 0]) (.op none (.store 3 (.t 3) (.t 8)) (.nil)))))
 (.seq (.seq (.ops (.op (some 4) (.mv (.c (.int .i64 0))) (.nil)))
 (.block 0 (.loop [4] [(4, 7), (9, 25)] [] [(.exit 0, [])] c51_1)))
 (.seq (.ops (.op (some 26) (.load 3 true (.t 3)) (.op none (.store 3 (.t 2) (.t 26)) (.nil))))
 (.ret)))))

theorem ok51 : okF Try.prog 51 c51 = true := by kernel_rfl

/-- catacomb/catacomblaw08.taken -/
def c52 : AF := AF.mk 26 [.cell 6 3 true] (.seq (.ops (.op (some 3) (.rbox (.t 0)) (.op (some 5) (.rbox (.t 2)) (.op (some 6) (.alloc [.lst true [], .int .i64 0, .int .i64 0]) (.nil)))))
 (.seq (.ops (.op (some 11) (.loadr 3 true (.t 3)) (.op (some 12) (.loadr 3 true (.t 3)) (.op (some 13) (.fad 3 (.t 5)) (.op (some 14) (.loadr 1 false (.t 13)) (.op (some 15) (.callp 12 [(.t 12), (.t 14)]) (.op (some 16) (.fad 4 (.t 5)) (.op (some 17) (.loadr 1 false (.t 16)) (.op (some 18) (.callp 81 [(.t 17)]) (.op (some 19) (.callp 36 [(.t 11), (.t 15), (.t 18)]) (.op (some 10) (.mv (.t 19)) (.op (some 20) (.ext (.t 10) 0) (.op (some 21) (.ext (.t 10) 1) (.op (some 22) (.ext (.t 10) 2) (.op (some 7) (.alloc [.lst true [], .int .i64 0, .int .i64 0]) (.op none (.store 3 (.t 7) (.t 20)) (.op (some 8) (.mv (.t 21)) (.op (some 9) (.mv (.t 22)) (.nil)))))))))))))))))))
 (.seq (.ops (.op (some 23) (.load 3 true (.t 7)) (.op (some 24) (.mv (.t 1)) (.op (some 25) (.call 33 [(.t 23), (.t 24)]) (.op none (.store 3 (.t 6) (.t 25)) (.nil))))))
 (.ret))))

theorem ok52 : okF Try.prog 52 c52 = true := by kernel_rfl

/-- catacomb/catacombref08.Close -/
def c53 : AF := AF.mk 59 [.cell 8 3 true, .t 9, .t 10] (.seq (.ops (.op (some 4) (.rbox (.t 0)) (.op (some 8) (.alloc [.lst true [], .int .i64 0, .int .i64 0]) (.op (some 9) (.mv (.c (.lst true []))) (.op (some 10) (.mv (.c (.int .i64 0))) (.nil))))))
 (.seq (.ops (.op (some 16) (.mv (.t 1)) (.op (some 17) (.mv (.t 2)) (.op (some 18) (.mv (.t 3)) (.op (some 19) (.call 56 [(.t 16), (.t 17), (.t 18)]) (.op (some 11) (.mv (.t 19)) (.nil)))))))
 (.seq (.seq (.ops (.op (some 20) (.mv (.t 11)) (.op (some 21) (.bin .lss (.t 20) (.c (.int .i64 0))) (.nil))))
 (.cond (.t 21) (.seq (.ops (.op (some 22) (.loadr 3 true (.t 4)) (.op (some 23) (.mv (.t 1)) (.op none (.store 3 (.t 8) (.t 22)) (.op (some 9) (.mv (.t 23)) (.op (some 10) (.mv (.c (.int .i64 80))) (.nil)))))))
 (.ret)) (.skip)))
 (.seq (.ops (.op (some 24) (.mv (.t 1)) (.op (some 25) (.mv (.t 11)) (.op (some 26) (.iad 3 (.t 24) (.t 25)) (.op (some 27) (.fad 2 (.t 26)) (.op (some 28) (.load 1 false (.t 27)) (.op (some 12) (.mv (.t 28)) (.nil))))))))
 (.seq (.ops (.op (some 29) (.bslh 3 (.agg [.int .i64 0, .int .i64 0, .int .i64 0]) 0 []) (.op (some 30) (.mv (.t 1)) (.op (some 31) (.mv (.t 11)) (.op (some 32) (.sll 3 (.t 30) none (some (.t 31)) none) (.op (some 33) (.app 3 24 (.t 29) (.t 32)) (.op (some 13) (.mv (.t 33)) (.nil))))))))
 (.seq (.ops (.op (some 34) (.mv (.t 13)) (.op (some 35) (.mv (.t 1)) (.op (some 36) (.mv (.t 11)) (.op (some 37) (.bin .add (.t 36) (.c (.int .i64 1))) (.op (some 38) (.sll 3 (.t 35) (some (.t 37)) none none) (.op (some 39) (.app 3 24 (.t 34) (.t 38)) (.op (some 13) (.mv (.t 39)) (.nil)))))))))
 (.seq (.seq (.ops (.op (some 40) (.loadr 3 true (.t 4)) (.op (some 41) (.mv (.t 12)) (.op (some 42) (.call 82 [(.t 40), (.t 41)]) (.op (some 43) (.mv (.t 42)) (.sc 48 true 43 44 47 (.op (some 44) (.mv (.t 13)) (.op (some 45) (.mv (.t 12)) (.op (some 46) (.call 30 [(.t 44), (.t 45)]) (.op (some 47) (.bin .eql (.t 46) (.c (.int .i64 0))) (.nil))))) (.t 47) (.nil)))))))
 (.cond (.t 48) (.seq (.ops (.op (some 50) (.loadr 3 true (.t 4)) (.op (some 51) (.mv (.t 12)) (.op (some 52) (.call 65 [(.t 50), (.t 51)]) (.op (some 49) (.mv (.t 52)) (.op (some 53) (.ext (.t 49) 0) (.op (some 54) (.ext (.t 49) 1) (.op (some 14) (.alloc [.lst true [], .int .i64 0, .int .i64 0]) (.op none (.store 3 (.t 14) (.t 53)) (.op (some 15) (.mv (.t 54)) (.nil)))))))))))
 (.seq (.ops (.op (some 55) (.load 3 true (.t 14)) (.op (some 56) (.mv (.t 13)) (.op none (.store 3 (.t 8) (.t 55)) (.op (some 9) (.mv (.t 56)) (.op (some 10) (.mv (.c (.int .i64 0))) (.nil)))))))
 (.ret))) (.skip)))
 (.seq (.ops (.op (some 57) (.loadr 3 true (.t 4)) (.op (some 58) (.mv (.t 13)) (.op none (.store 3 (.t 8) (.t 57)) (.op (some 9) (.mv (.t 58)) (.op (some 10) (.mv (.c (.int .i64 0))) (.nil)))))))
 (.ret)))))))))

theorem ok53 : okF Try.prog 53 c53 = true := by kernel_rfl

/-- catacomb/catacombref08.Gone -/
def b54_1 : AC := .seq (.seq (.ops (.op (some 12) (.mv (.t 8)) (.op (some 13) (.bin .leq (.t 12) (.c (.int .i64 99))) (.nil))))
 (.cond (.t 13) (.skip) (.exit 0)))
 (.seq (.block 1 (.seq (.ops (.op (some 17) (.load 3 true (.t 3)) (.op (some 18) (.mv (.t 1)) (.op (some 19) (.mv (.t 2)) (.op (some 20) (.mv (.t 8)) (.op (some 21) (.call 53 [(.t 17), (.t 18), (.t 19), (.t 20)]) (.op (some 16) (.mv (.t 21)) (.op (some 22) (.ext (.t 16) 0) (.op (some 23) (.ext (.t 16) 1) (.op (some 24) (.ext (.t 16) 2) (.op (some 9) (.alloc [.lst true [], .int .i64 0, .int .i64 0]) (.op none (.store 3 (.t 9) (.t 22)) (.op (some 10) (.mv (.t 23)) (.op (some 11) (.mv (.t 24)) (.nil)))))))))))))))
 (.seq (.ops (.op (some 25) (.load 3 true (.t 9)) (.op none (.store 3 (.t 3) (.t 25)) (.nil))))
 (.ops (.op (some 26) (.mv (.t 10)) (.op (some 1) (.mv (.t 26)) (.nil)))))))
 (.ops (.op (some 14) (.mv (.t 8)) (.op (some 15) (.bin .add (.t 14) (.c (.int .i64 1))) (.op (some 8) (.mv (.t 15)) (.nil))))))
def c54_1 : AC := b54_1
@[simp] theorem e54_1 {Γ : Tab} {V : Nat → Bool} {ρ : Type} (k : AX → St → Option ρ) (s : St) : eval Γ c54_1 V ρ k s = eval Γ b54_1 V ρ k s := rfl
def c54 : AF := AF.mk 29 [.cell 6 3 true, .t 7] (.seq (.ops (.op (some 3) (.box (.t 0)) (.op (some 6) (.alloc [.lst true [], .int .i64 0, .int .i64 0]) (.op (some 7) (.mv (.c (.lst true []))) (.nil)))))
 (.seq (.seq (.ops (.op (some 8) (.mv (.c (.int .i64 0))) (.nil)))
 (.block 0 (.loop [1, 8] [(1, 1), (8, 26)] [] [(.exit 0, [1])] c54_1)))
 (.seq (.ops (.op (some 27) (.load 3 true (.t 3)) (.op (some 28) (.mv (.t 1)) (.op none (.store 3 (.t 6) (.t 27)) (.op (some 7) (.mv (.t 28)) (.nil))))))
 (.ret))))

theorem ok54 : okF Try.prog 54 c54 = true := by kernel_rfl

/-- catacomb/catacombref08.Open -/
def b55_1 : AC := .seq (.seq (.ops (.op (some 59) (.mv (.t 14)) (.op (some 60) (.mv (.t 1)) (.op (some 61) (.len false (.t 60)) (.op (some 62) (.bin .lss (.t 59) (.t 61)) (.op (some 63) (.mv (.t 62)) (.sc 89 true 63 64 88 (.op (some 64) (.mv (.t 1)) (.op (some 65) (.mv (.t 14)) (.op (some 66) (.iad 3 (.t 64) (.t 65)) (.op (some 67) (.fad 0 (.t 66)) (.op (some 68) (.load 1 false (.t 67)) (.op (some 69) (.mv (.t 2)) (.op (some 70) (.bin .lss (.t 68) (.t 69)) (.op (some 71) (.mv (.t 70)) (.sc 88 false 71 72 87 (.op (some 72) (.mv (.t 1)) (.op (some 73) (.mv (.t 14)) (.op (some 74) (.iad 3 (.t 72) (.t 73)) (.op (some 75) (.fad 0 (.t 74)) (.op (some 76) (.load 1 false (.t 75)) (.op (some 77) (.mv (.t 2)) (.op (some 78) (.bin .eql (.t 76) (.t 77)) (.op (some 79) (.mv (.t 78)) (.sc 87 true 79 80 86 (.op (some 80) (.mv (.t 1)) (.op (some 81) (.mv (.t 14)) (.op (some 82) (.iad 3 (.t 80) (.t 81)) (.op (some 83) (.fad 1 (.t 82)) (.op (some 84) (.load 1 false (.t 83)) (.op (some 85) (.mv (.t 3)) (.op (some 86) (.bin .lss (.t 84) (.t 85)) (.nil)))))))) (.t 86) (.nil)))))))))) (.t 87) (.nil)))))))))) (.t 88) (.nil))))))))
 (.cond (.t 89) (.skip) (.exit 0)))
 (.block 1 (.ops (.op (some 90) (.mv (.t 14)) (.op (some 91) (.bin .add (.t 90) (.c (.int .i64 1))) (.op (some 14) (.mv (.t 91)) (.nil))))))
def c55_1 : AC := b55_1
@[simp] theorem e55_1 {Γ : Tab} {V : Nat → Bool} {ρ : Type} (k : AX → St → Option ρ) (s : St) : eval Γ c55_1 V ρ k s = eval Γ b55_1 V ρ k s := rfl
def c55 : AF := AF.mk 110 [.t 10, .t 11] (.seq (.ops (.op (some 5) (.rbox (.t 0)) (.op (some 10) (.mv (.c (.lst true []))) (.op (some 11) (.mv (.c (.int .i64 0))) (.nil)))))
 (.seq (.ops (.op (some 17) (.loadr 3 true (.t 5)) (.op (some 18) (.mv (.t 4)) (.op (some 19) (.call 29 [(.t 17), (.t 18)]) (.op (some 16) (.mv (.t 19)) (.op (some 20) (.ext (.t 16) 0) (.op (some 21) (.ext (.t 16) 1) (.op (some 12) (.alloc [.int .i64 0, .int .i64 0, .int .i64 0, .lst true [], .lst true [], .int .i64 0]) (.op none (.store 6 (.t 12) (.t 20)) (.op (some 13) (.mv (.t 21)) (.nil)))))))))))
 (.seq (.seq (.ops (.op (some 22) (.mv (.t 2)) (.op (some 23) (.bin .lss (.t 22) (.c (.int .i64 0))) (.op (some 24) (.mv (.t 23)) (.sc 27 false 24 25 26 (.op (some 25) (.mv (.t 2)) (.op (some 26) (.bin .geq (.t 25) (.c (.int .i64 16))) (.nil))) (.t 26) (.op (some 28) (.mv (.t 27)) (.sc 31 false 28 29 30 (.op (some 29) (.mv (.t 3)) (.op (some 30) (.bin .lss (.t 29) (.c (.int .i64 0))) (.nil))) (.t 30) (.op (some 32) (.mv (.t 31)) (.sc 35 false 32 33 34 (.op (some 33) (.mv (.t 3)) (.op (some 34) (.bin .gtr (.t 33) (.c (.int .i64 99))) (.nil))) (.t 34) (.nil))))))))))
 (.cond (.t 35) (.seq (.ops (.op (some 36) (.mv (.t 1)) (.op (some 10) (.mv (.t 36)) (.op (some 11) (.mv (.c (.int .i64 1))) (.nil)))))
 (.ret)) (.skip)))
 (.seq (.seq (.ops (.op (some 37) (.mv (.t 13)) (.op (some 38) (.un .not (.t 37)) (.op (some 39) (.mv (.t 38)) (.sc 43 false 39 40 42 (.op (some 40) (.loadr 3 true (.t 5)) (.op (some 41) (.mv (.t 4)) (.op (some 42) (.call 82 [(.t 40), (.t 41)]) (.nil)))) (.t 42) (.nil))))))
 (.cond (.t 43) (.seq (.ops (.op (some 44) (.mv (.t 1)) (.op (some 10) (.mv (.t 44)) (.op (some 11) (.mv (.c (.int .i64 70))) (.nil)))))
 (.ret)) (.skip)))
 (.seq (.seq (.ops (.op (some 45) (.fad 1 (.t 12)) (.op (some 46) (.load 1 false (.t 45)) (.op (some 47) (.bin .eql (.t 46) (.c (.int .i64 2))) (.nil)))))
 (.cond (.t 47) (.seq (.ops (.op (some 48) (.mv (.t 1)) (.op (some 10) (.mv (.t 48)) (.op (some 11) (.mv (.c (.int .i64 72))) (.nil)))))
 (.ret)) (.skip)))
 (.seq (.seq (.ops (.op (some 49) (.mv (.t 1)) (.op (some 50) (.mv (.t 2)) (.op (some 51) (.mv (.t 3)) (.op (some 52) (.call 56 [(.t 49), (.t 50), (.t 51)]) (.op (some 53) (.bin .geq (.t 52) (.c (.int .i64 0))) (.nil)))))))
 (.cond (.t 53) (.seq (.ops (.op (some 54) (.mv (.t 1)) (.op (some 10) (.mv (.t 54)) (.op (some 11) (.mv (.c (.int .i64 71))) (.nil)))))
 (.ret)) (.skip)))
 (.seq (.seq (.ops (.op (some 55) (.mv (.t 1)) (.op (some 56) (.len false (.t 55)) (.op (some 57) (.bin .geq (.t 56) (.c (.int .i64 64))) (.nil)))))
 (.cond (.t 57) (.seq (.ops (.op (some 58) (.mv (.t 1)) (.op (some 10) (.mv (.t 58)) (.op (some 11) (.mv (.c (.int .i64 76))) (.nil)))))
 (.ret)) (.skip)))
 (.seq (.ops (.op (some 14) (.mv (.c (.int .i64 0))) (.nil)))
 (.seq (.block 0 (.loop [14] [(14, 14), (59, 91)] [] [(.exit 0, [14])] c55_1))
 (.seq (.ops (.op (some 92) (.bslh 3 (.agg [.int .i64 0, .int .i64 0, .int .i64 0]) 0 []) (.op (some 93) (.mv (.t 1)) (.op (some 94) (.mv (.t 14)) (.op (some 95) (.sll 3 (.t 93) none (some (.t 94)) none) (.op (some 96) (.app 3 24 (.t 92) (.t 95)) (.op (some 15) (.mv (.t 96)) (.nil))))))))
 (.seq (.ops (.op (some 97) (.mv (.t 15)) (.op (some 98) (.mv (.t 2)) (.op (some 99) (.mv (.t 3)) (.op (some 100) (.mv (.t 4)) (.op (some 101) (.build [.int .i64 0, .int .i64 0, .int .i64 0] [(0, 1, (.t 98)), (1, 1, (.t 99)), (2, 1, (.t 100))]) (.op (some 102) (.bslh 3 (.agg [.int .i64 0, .int .i64 0, .int .i64 0]) 1 [(0, (.t 101))]) (.op (some 103) (.app 3 24 (.t 97) (.t 102)) (.op (some 15) (.mv (.t 103)) (.nil))))))))))
 (.seq (.ops (.op (some 104) (.mv (.t 15)) (.op (some 105) (.mv (.t 1)) (.op (some 106) (.mv (.t 14)) (.op (some 107) (.sll 3 (.t 105) (some (.t 106)) none none) (.op (some 108) (.app 3 24 (.t 104) (.t 107)) (.op (some 15) (.mv (.t 108)) (.nil))))))))
 (.seq (.ops (.op (some 109) (.mv (.t 15)) (.op (some 10) (.mv (.t 109)) (.op (some 11) (.mv (.c (.int .i64 0))) (.nil)))))
 (.ret))))))))))))))

theorem ok55 : okF Try.prog 55 c55 = true := by kernel_rfl

/-- catacomb/catacombref08.place -/
def b56_1 : AC := .seq (.seq (.ops (.op (some 8) (.mv (.t 7)) (.op (some 9) (.mv (.t 0)) (.op (some 10) (.len false (.t 9)) (.op (some 11) (.bin .lss (.t 8) (.t 10)) (.nil))))))
 (.cond (.t 11) (.skip) (.exit 0)))
 (.seq (.block 1 (.seq (.ops (.op (some 14) (.mv (.t 0)) (.op (some 15) (.mv (.t 7)) (.op (some 16) (.iad 3 (.t 14) (.t 15)) (.op (some 17) (.fad 0 (.t 16)) (.op (some 18) (.load 1 false (.t 17)) (.op (some 19) (.mv (.t 1)) (.op (some 20) (.bin .eql (.t 18) (.t 19)) (.op (some 21) (.mv (.t 20)) (.sc 29 true 21 22 28 (.op (some 22) (.mv (.t 0)) (.op (some 23) (.mv (.t 7)) (.op (some 24) (.iad 3 (.t 22) (.t 23)) (.op (some 25) (.fad 1 (.t 24)) (.op (some 26) (.load 1 false (.t 25)) (.op (some 27) (.mv (.t 2)) (.op (some 28) (.bin .eql (.t 26) (.t 27)) (.nil)))))))) (.t 28) (.nil)))))))))))
 (.cond (.t 29) (.seq (.ops (.op (some 30) (.mv (.t 7)) (.op (some 6) (.mv (.t 30)) (.nil))))
 (.ret)) (.skip))))
 (.ops (.op (some 12) (.mv (.t 7)) (.op (some 13) (.bin .add (.t 12) (.c (.int .i64 1))) (.op (some 7) (.mv (.t 13)) (.nil))))))
def c56_1 : AC := b56_1
@[simp] theorem e56_1 {Γ : Tab} {V : Nat → Bool} {ρ : Type} (k : AX → St → Option ρ) (s : St) : eval Γ c56_1 V ρ k s = eval Γ b56_1 V ρ k s := rfl
def c56 : AF := AF.mk 31 [.t 6] (.seq (.ops (.op (some 6) (.mv (.c (.int .i64 0))) (.nil)))
 (.seq (.seq (.ops (.op (some 7) (.mv (.c (.int .i64 0))) (.nil)))
 (.block 0 (.loop [7] [(6, 30)] [] [(.exit 0, []), (.ret, [6])] c56_1)))
 (.seq (.ops (.op (some 6) (.mv (.c (.int .i64 (-1)))) (.nil)))
 (.ret))))

theorem ok56 : okF Try.prog 56 c56 = true := by kernel_rfl

/-- catacomb/hold.of -/
def c57 : AF := AF.mk 8 [.cell 2 2 true] (.seq (.ops (.op (some 1) (.rbox (.t 0)) (.op (some 2) (.alloc [.int .i64 0, .int .i64 0]) (.nil))))
 (.seq (.ops (.op (some 3) (.fad 0 (.t 1)) (.op (some 4) (.loadr 1 false (.t 3)) (.op (some 5) (.fad 1 (.t 1)) (.op (some 6) (.loadr 1 false (.t 5)) (.op (some 7) (.build [.int .i64 0, .int .i64 0] [(0, 1, (.t 4)), (1, 1, (.t 6))]) (.op none (.store 2 (.t 2) (.t 7)) (.nil))))))))
 (.ret)))

theorem ok57 : okF Try.prog 57 c57 = true := by kernel_rfl

/-- slices.ContainsFunc[[]int,int] -/
def c58 : AF := AF.mk 9 [.t 4] (.seq (.ops (.op (some 4) (.mv (.c (.bool false))) (.nil)))
 (.seq (.ops (.op (some 5) (.mv (.t 0)) (.op (some 6) (.mv (.t 1)) (.op (some 7) (.call 83 [(.t 5), (.t 6)]) (.op (some 8) (.bin .geq (.t 7) (.c (.int .i64 0))) (.op (some 4) (.mv (.t 8)) (.nil)))))))
 (.ret)))

theorem ok58 : okF Try.prog 58 c58 = true := by kernel_rfl

/-- catacomb/hold.Right$1 -/
def c59 : AF := AF.mk 8 [.t 3] (.seq (.ops (.op (some 3) (.mv (.c (.bool false))) (.nil)))
 (.seq (.ops (.op (some 4) (.load 1 false (.t 1)) (.op (some 5) (.mv (.t 0)) (.op (some 6) (.call 48 [(.t 4), (.t 5)]) (.op (some 7) (.un .not (.t 6)) (.op (some 3) (.mv (.t 7)) (.nil)))))))
 (.ret)))

theorem ok59 : okF Try.prog 59 c59 = true := by kernel_rfl

/-- catacomb/catacombref07.node -/
def c60 : AF := AF.mk 81 [.t 4] (.seq (.ops (.op (some 2) (.rbox (.t 0)) (.op (some 3) (.rbox (.t 1)) (.op (some 4) (.mv (.c (.bool false))) (.nil)))))
 (.seq (.ops (.op (some 8) (.loadr 3 true (.t 2)) (.op (some 9) (.fad 0 (.t 3)) (.op (some 10) (.loadr 1 false (.t 9)) (.op (some 11) (.fad 5 (.t 3)) (.op (some 12) (.loadr 1 false (.t 11)) (.op (some 13) (.call 84 [(.t 8), (.t 10), (.t 12)]) (.op (some 7) (.mv (.t 13)) (.op (some 14) (.ext (.t 7) 0) (.op (some 15) (.ext (.t 7) 1) (.op (some 5) (.mv (.t 14)) (.op (some 6) (.mv (.t 15)) (.nil)))))))))))))
 (.seq (.seq (.ops (.op (some 16) (.fad 1 (.t 3)) (.op (some 17) (.loadr 1 false (.t 16)) (.op (some 18) (.bin .eql (.t 17) (.c (.int .i64 1))) (.nil)))))
 (.cond (.t 18) (.seq (.ops (.op (some 19) (.fad 4 (.t 3)) (.op (some 20) (.loadr 1 false (.t 19)) (.op (some 21) (.len false (.t 20)) (.op (some 22) (.bin .eql (.t 21) (.c (.int .i64 0))) (.op (some 23) (.mv (.t 22)) (.sc 27 true 23 24 26 (.op (some 24) (.fad 5 (.t 3)) (.op (some 25) (.loadr 1 false (.t 24)) (.op (some 26) (.bin .eql (.t 25) (.c (.int .i64 0))) (.nil)))) (.t 26) (.op (some 28) (.mv (.t 27)) (.sc 33 true 28 29 32 (.op (some 29) (.fad 3 (.t 3)) (.op (some 30) (.loadr 1 false (.t 29)) (.op (some 31) (.len false (.t 30)) (.op (some 32) (.bin .leq (.t 31) (.c (.int .i64 4096))) (.nil))))) (.t 32) (.op (some 34) (.mv (.t 33)) (.sc 39 true 34 35 38 (.op (some 35) (.fad 2 (.t 3)) (.op (some 36) (.loadr 1 false (.t 35)) (.op (some 37) (.mv (.t 5)) (.op (some 38) (.bin .eql (.t 36) (.t 37)) (.nil))))) (.t 38) (.op (some 4) (.mv (.t 39)) (.nil)))))))))))))
 (.ret)) (.skip)))
 (.seq (.seq (.ops (.op (some 40) (.fad 1 (.t 3)) (.op (some 41) (.loadr 1 false (.t 40)) (.op (some 42) (.bin .neq (.t 41) (.c (.int .i64 2))) (.op (some 43) (.mv (.t 42)) (.sc 48 false 43 44 47 (.op (some 44) (.fad 3 (.t 3)) (.op (some 45) (.loadr 1 false (.t 44)) (.op (some 46) (.len false (.t 45)) (.op (some 47) (.bin .gtr (.t 46) (.c (.int .i64 0))) (.nil))))) (.t 47) (.op (some 49) (.mv (.t 48)) (.sc 54 false 49 50 53 (.op (some 50) (.loadr 3 true (.t 2)) (.op (some 51) (.loadr 6 true (.t 3)) (.op (some 52) (.call 85 [(.t 50), (.t 51)]) (.op (some 53) (.un .not (.t 52)) (.nil))))) (.t 53) (.nil)))))))))
 (.cond (.t 54) (.seq (.ops (.op (some 4) (.mv (.c (.bool false))) (.nil)))
 (.ret)) (.skip)))
 (.seq (.seq (.ops (.op (some 55) (.fad 0 (.t 3)) (.op (some 56) (.loadr 1 false (.t 55)) (.op (some 57) (.bin .eql (.t 56) (.c (.int .i64 1))) (.nil)))))
 (.cond (.t 57) (.seq (.ops (.op (some 58) (.fad 5 (.t 3)) (.op (some 59) (.loadr 1 false (.t 58)) (.op (some 60) (.bin .eql (.t 59) (.c (.int .i64 1))) (.op (some 61) (.mv (.t 60)) (.sc 65 true 61 62 64 (.op (some 62) (.fad 2 (.t 3)) (.op (some 63) (.loadr 1 false (.t 62)) (.op (some 64) (.bin .eql (.t 63) (.c (.int .i64 0))) (.nil)))) (.t 64) (.op (some 66) (.mv (.t 65)) (.sc 69 true 66 67 68 (.op (some 67) (.mv (.t 5)) (.op (some 68) (.bin .eql (.t 67) (.c (.int .i64 0))) (.nil))) (.t 68) (.op (some 4) (.mv (.t 69)) (.nil))))))))))
 (.ret)) (.skip)))
 (.seq (.ops (.op (some 70) (.mv (.t 5)) (.op (some 71) (.bin .eql (.t 70) (.c (.int .i64 1))) (.op (some 72) (.mv (.t 71)) (.sc 75 true 72 73 74 (.op (some 73) (.mv (.t 6)) (.op (some 74) (.bin .eql (.t 73) (.c (.int .i64 1))) (.nil))) (.t 74) (.op (some 76) (.mv (.t 75)) (.sc 80 true 76 77 79 (.op (some 77) (.fad 2 (.t 3)) (.op (some 78) (.loadr 1 false (.t 77)) (.op (some 79) (.bin .eql (.t 78) (.c (.int .i64 1))) (.nil)))) (.t 79) (.op (some 4) (.mv (.t 80)) (.nil)))))))))
 (.ret)))))))

theorem ok60 : okF Try.prog 60 c60 = true := by kernel_rfl

/-- catacomb/catacombref07.depth -/
def b61_1 : AC := .seq (.seq (.ops (.op (some 8) (.mv (.t 1)) (.op (some 9) (.bin .neq (.t 8) (.c (.int .i64 1))) (.op (some 10) (.mv (.t 9)) (.sc 13 true 10 11 12 (.op (some 11) (.mv (.t 5)) (.op (some 12) (.bin .leq (.t 11) (.c (.int .i64 200))) (.nil))) (.t 12) (.nil))))))
 (.cond (.t 13) (.skip) (.exit 0)))
 (.block 1 (.seq (.ops (.op (some 15) (.loadr 3 true (.t 2)) (.op (some 16) (.mv (.t 1)) (.op (some 17) (.call 29 [(.t 15), (.t 16)]) (.op (some 14) (.mv (.t 17)) (.op (some 18) (.ext (.t 14) 0) (.op (some 19) (.ext (.t 14) 1) (.op (some 6) (.alloc [.int .i64 0, .int .i64 0, .int .i64 0, .lst true [], .lst true [], .int .i64 0]) (.op none (.store 6 (.t 6) (.t 18)) (.op (some 7) (.mv (.t 19)) (.nil)))))))))))
 (.seq (.ops (.op (some 20) (.fad 5 (.t 6)) (.op (some 21) (.load 1 false (.t 20)) (.op (some 1) (.mv (.t 21)) (.nil)))))
 (.ops (.op (some 22) (.mv (.t 5)) (.op (some 23) (.bin .add (.t 22) (.c (.int .i64 1))) (.op (some 5) (.mv (.t 23)) (.nil))))))))
def c61_1 : AC := b61_1
@[simp] theorem e61_1 {Γ : Tab} {V : Nat → Bool} {ρ : Type} (k : AX → St → Option ρ) (s : St) : eval Γ c61_1 V ρ k s = eval Γ b61_1 V ρ k s := rfl
def c61 : AF := AF.mk 25 [.t 4] (.seq (.ops (.op (some 2) (.rbox (.t 0)) (.op (some 4) (.mv (.c (.int .i64 0))) (.nil))))
 (.seq (.ops (.op (some 5) (.mv (.c (.int .i64 0))) (.nil)))
 (.seq (.block 0 (.loop [1, 5] [(1, 1), (5, 23)] [] [(.exit 0, [5])] c61_1))
 (.seq (.ops (.op (some 24) (.mv (.t 5)) (.op (some 4) (.mv (.t 24)) (.nil))))
 (.ret)))))

theorem ok61 : okF Try.prog 61 c61 = true := by kernel_rfl

/-- catacomb/catacombref07.Below -/
def b62_1 : AC := .seq (.seq (.ops (.op (some 10) (.mv (.t 7)) (.op (some 11) (.fad 0 (.t 3)) (.op (some 12) (.loadr 1 false (.t 11)) (.op (some 13) (.len false (.t 12)) (.op (some 14) (.bin .leq (.t 10) (.t 13)) (.nil)))))))
 (.cond (.t 14) (.skip) (.exit 0)))
 (.seq (.block 1 (.seq (.seq (.ops (.op (some 17) (.mv (.t 1)) (.op (some 18) (.mv (.t 2)) (.op (some 19) (.bin .eql (.t 17) (.t 18)) (.nil)))))
 (.cond (.t 19) (.seq (.ops (.op (some 6) (.mv (.c (.bool true))) (.nil)))
 (.ret)) (.skip)))
 (.seq (.seq (.ops (.op (some 20) (.mv (.t 1)) (.op (some 21) (.bin .eql (.t 20) (.c (.int .i64 1))) (.nil))))
 (.cond (.t 21) (.seq (.ops (.op (some 6) (.mv (.c (.bool false))) (.nil)))
 (.ret)) (.skip)))
 (.seq (.ops (.op (some 23) (.loadr 3 true (.t 3)) (.op (some 24) (.mv (.t 1)) (.op (some 25) (.call 29 [(.t 23), (.t 24)]) (.op (some 22) (.mv (.t 25)) (.op (some 26) (.ext (.t 22) 0) (.op (some 27) (.ext (.t 22) 1) (.op (some 8) (.alloc [.int .i64 0, .int .i64 0, .int .i64 0, .lst true [], .lst true [], .int .i64 0]) (.op none (.store 6 (.t 8) (.t 26)) (.op (some 9) (.mv (.t 27)) (.nil)))))))))))
 (.ops (.op (some 28) (.fad 5 (.t 8)) (.op (some 29) (.load 1 false (.t 28)) (.op (some 1) (.mv (.t 29)) (.nil)))))))))
 (.ops (.op (some 15) (.mv (.t 7)) (.op (some 16) (.bin .add (.t 15) (.c (.int .i64 1))) (.op (some 7) (.mv (.t 16)) (.nil))))))
def c62_1 : AC := b62_1
@[simp] theorem e62_1 {Γ : Tab} {V : Nat → Bool} {ρ : Type} (k : AX → St → Option ρ) (s : St) : eval Γ c62_1 V ρ k s = eval Γ b62_1 V ρ k s := rfl
def c62 : AF := AF.mk 30 [.t 6] (.seq (.ops (.op (some 3) (.rbox (.t 0)) (.op (some 6) (.mv (.c (.bool false))) (.nil))))
 (.seq (.seq (.ops (.op (some 7) (.mv (.c (.int .i64 0))) (.nil)))
 (.block 0 (.loop [1, 7] [(1, 1), (6, 29)] [] [(.exit 0, []), (.ret, [6])] c62_1)))
 (.seq (.ops (.op (some 6) (.mv (.c (.bool false))) (.nil)))
 (.ret))))

theorem ok62 : okF Try.prog 62 c62 = true := by kernel_rfl

/-- catacomb/catacombref07.place -/
def b63_1 : AC := .seq (.seq (.ops (.op (some 6) (.mv (.t 5)) (.op (some 7) (.fad 0 (.t 2)) (.op (some 8) (.loadr 1 false (.t 7)) (.op (some 9) (.len false (.t 8)) (.op (some 10) (.bin .lss (.t 6) (.t 9)) (.nil)))))))
 (.cond (.t 10) (.skip) (.exit 0)))
 (.seq (.block 1 (.seq (.ops (.op (some 13) (.fad 0 (.t 2)) (.op (some 14) (.loadr 1 false (.t 13)) (.op (some 15) (.mv (.t 5)) (.op (some 16) (.iad 6 (.t 14) (.t 15)) (.op (some 17) (.fad 0 (.t 16)) (.op (some 18) (.load 1 false (.t 17)) (.op (some 19) (.mv (.t 1)) (.op (some 20) (.bin .eql (.t 18) (.t 19)) (.nil))))))))))
 (.cond (.t 20) (.seq (.ops (.op (some 21) (.mv (.t 5)) (.op (some 4) (.mv (.t 21)) (.nil))))
 (.ret)) (.skip))))
 (.ops (.op (some 11) (.mv (.t 5)) (.op (some 12) (.bin .add (.t 11) (.c (.int .i64 1))) (.op (some 5) (.mv (.t 12)) (.nil))))))
def c63_1 : AC := b63_1
@[simp] theorem e63_1 {Γ : Tab} {V : Nat → Bool} {ρ : Type} (k : AX → St → Option ρ) (s : St) : eval Γ c63_1 V ρ k s = eval Γ b63_1 V ρ k s := rfl
def c63 : AF := AF.mk 22 [.t 4] (.seq (.ops (.op (some 2) (.rbox (.t 0)) (.op (some 4) (.mv (.c (.int .i64 0))) (.nil))))
 (.seq (.seq (.ops (.op (some 5) (.mv (.c (.int .i64 0))) (.nil)))
 (.block 0 (.loop [5] [(4, 21)] [] [(.exit 0, []), (.ret, [4])] c63_1)))
 (.seq (.ops (.op (some 4) (.mv (.c (.int .i64 (-1)))) (.nil)))
 (.ret))))

theorem ok63 : okF Try.prog 63 c63 = true := by kernel_rfl

/-- catacomb/catacombref07.SameEnts -/
def b64_1 : AC := .seq (.seq (.ops (.op (some 11) (.mv (.t 5)) (.op (some 12) (.mv (.t 0)) (.op (some 13) (.len false (.t 12)) (.op (some 14) (.bin .lss (.t 11) (.t 13)) (.nil))))))
 (.cond (.t 14) (.skip) (.exit 0)))
 (.seq (.block 1 (.seq (.ops (.op (some 17) (.mv (.t 0)) (.op (some 18) (.mv (.t 5)) (.op (some 19) (.iad 3 (.t 17) (.t 18)) (.op (some 20) (.load 3 true (.t 19)) (.op (some 21) (.mv (.t 1)) (.op (some 22) (.mv (.t 5)) (.op (some 23) (.iad 3 (.t 21) (.t 22)) (.op (some 24) (.load 3 true (.t 23)) (.op (some 25) (.seq true [1, 0, 0] (.t 20) (.t 24)) (.nil)))))))))))
 (.cond (.t 25) (.seq (.ops (.op (some 4) (.mv (.c (.bool false))) (.nil)))
 (.ret)) (.skip))))
 (.ops (.op (some 15) (.mv (.t 5)) (.op (some 16) (.bin .add (.t 15) (.c (.int .i64 1))) (.op (some 5) (.mv (.t 16)) (.nil))))))
def c64_1 : AC := b64_1
@[simp] theorem e64_1 {Γ : Tab} {V : Nat → Bool} {ρ : Type} (k : AX → St → Option ρ) (s : St) : eval Γ c64_1 V ρ k s = eval Γ b64_1 V ρ k s := rfl
def c64 : AF := AF.mk 26 [.t 4] (.seq (.ops (.op (some 4) (.mv (.c (.bool false))) (.nil)))
 (.seq (.seq (.ops (.op (some 6) (.mv (.t 0)) (.op (some 7) (.len false (.t 6)) (.op (some 8) (.mv (.t 1)) (.op (some 9) (.len false (.t 8)) (.op (some 10) (.bin .neq (.t 7) (.t 9)) (.nil)))))))
 (.cond (.t 10) (.seq (.ops (.op (some 4) (.mv (.c (.bool false))) (.nil)))
 (.ret)) (.skip)))
 (.seq (.seq (.ops (.op (some 5) (.mv (.c (.int .i64 0))) (.nil)))
 (.block 0 (.loop [5] [(4, 5), (11, 25)] [] [(.exit 0, []), (.ret, [4])] c64_1)))
 (.seq (.ops (.op (some 4) (.mv (.c (.bool true))) (.nil)))
 (.ret)))))

theorem ok64 : okF Try.prog 64 c64 = true := by kernel_rfl

/-- catacomb/catacombref07.Free -/
def c65 : AF := AF.mk 28 [.cell 4 3 true, .t 5] (.seq (.ops (.op (some 2) (.rbox (.t 0)) (.op (some 4) (.alloc [.lst true [], .int .i64 0, .int .i64 0]) (.op (some 5) (.mv (.c (.int .i64 0))) (.nil)))))
 (.seq (.ops (.op (some 9) (.loadr 3 true (.t 2)) (.op (some 10) (.mv (.t 1)) (.op (some 11) (.call 29 [(.t 9), (.t 10)]) (.op (some 8) (.mv (.t 11)) (.op (some 12) (.ext (.t 8) 0) (.op (some 13) (.ext (.t 8) 1) (.op (some 6) (.alloc [.int .i64 0, .int .i64 0, .int .i64 0, .lst true [], .lst true [], .int .i64 0]) (.op none (.store 6 (.t 6) (.t 12)) (.op (some 7) (.mv (.t 13)) (.nil)))))))))))
 (.seq (.seq (.ops (.op (some 14) (.mv (.t 7)) (.op (some 15) (.un .not (.t 14)) (.nil))))
 (.cond (.t 15) (.seq (.ops (.op (some 16) (.loadr 3 true (.t 2)) (.op none (.store 3 (.t 4) (.t 16)) (.op (some 5) (.mv (.c (.int .i64 70))) (.nil)))))
 (.ret)) (.skip)))
 (.seq (.seq (.ops (.op (some 17) (.fad 1 (.t 6)) (.op (some 18) (.load 1 false (.t 17)) (.op (some 19) (.bin .eql (.t 18) (.c (.int .i64 2))) (.nil)))))
 (.cond (.t 19) (.seq (.ops (.op (some 20) (.loadr 3 true (.t 2)) (.op none (.store 3 (.t 4) (.t 20)) (.op (some 5) (.mv (.c (.int .i64 72))) (.nil)))))
 (.ret)) (.skip)))
 (.seq (.seq (.ops (.op (some 21) (.fad 2 (.t 6)) (.op (some 22) (.load 1 false (.t 21)) (.op (some 23) (.bin .gtr (.t 22) (.c (.int .i64 0))) (.nil)))))
 (.cond (.t 23) (.seq (.ops (.op (some 24) (.loadr 3 true (.t 2)) (.op none (.store 3 (.t 4) (.t 24)) (.op (some 5) (.mv (.c (.int .i64 71))) (.nil)))))
 (.ret)) (.skip)))
 (.seq (.ops (.op (some 25) (.loadr 3 true (.t 2)) (.op (some 26) (.mv (.t 1)) (.op (some 27) (.call 86 [(.t 25), (.t 26)]) (.op none (.store 3 (.t 4) (.t 27)) (.op (some 5) (.mv (.c (.int .i64 0))) (.nil)))))))
 (.ret)))))))

theorem ok65 : okF Try.prog 65 c65 = true := by kernel_rfl

/-- catacomb/catacombref07.enter -/
def c66 : AF := AF.mk 28 [.t 6] (.seq (.ops (.op (some 3) (.rbox (.t 0)) (.op (some 6) (.mv (.c (.int .i64 0))) (.nil))))
 (.seq (.ops (.op (some 10) (.loadr 3 true (.t 3)) (.op (some 11) (.mv (.t 1)) (.op (some 12) (.call 87 [(.t 10), (.t 11)]) (.op (some 9) (.mv (.t 12)) (.op (some 13) (.ext (.t 9) 0) (.op (some 14) (.ext (.t 9) 1) (.op (some 7) (.alloc [.int .i64 0, .int .i64 0, .int .i64 0, .lst true [], .lst true [], .int .i64 0]) (.op none (.store 6 (.t 7) (.t 13)) (.op (some 8) (.mv (.t 14)) (.nil)))))))))))
 (.seq (.seq (.ops (.op (some 15) (.mv (.t 8)) (.op (some 16) (.bin .neq (.t 15) (.c (.int .i64 0))) (.nil))))
 (.cond (.t 16) (.seq (.ops (.op (some 17) (.mv (.t 8)) (.op (some 6) (.mv (.t 17)) (.nil))))
 (.ret)) (.skip)))
 (.seq (.seq (.ops (.op (some 18) (.mv (.t 2)) (.op (some 19) (.call 88 [(.t 18)]) (.op (some 20) (.un .not (.t 19)) (.nil)))))
 (.cond (.t 20) (.seq (.ops (.op (some 6) (.mv (.c (.int .i64 60))) (.nil)))
 (.ret)) (.skip)))
 (.seq (.seq (.ops (.op (some 21) (.load 6 true (.t 7)) (.op (some 22) (.mv (.t 2)) (.op (some 23) (.call 89 [(.t 21), (.t 22)]) (.op (some 24) (.bin .geq (.t 23) (.c (.int .i64 0))) (.nil))))))
 (.cond (.t 24) (.seq (.ops (.op (some 6) (.mv (.c (.int .i64 71))) (.nil)))
 (.ret)) (.skip)))
 (.seq (.seq (.ops (.op (some 25) (.loadr 3 true (.t 3)) (.op (some 26) (.load 6 true (.t 7)) (.op (some 27) (.call 90 [(.t 25), (.t 26)]) (.nil)))))
 (.cond (.t 27) (.seq (.ops (.op (some 6) (.mv (.c (.int .i64 76))) (.nil)))
 (.ret)) (.skip)))
 (.seq (.ops (.op (some 6) (.mv (.c (.int .i64 0))) (.nil)))
 (.ret))))))))

theorem ok66 : okF Try.prog 66 c66 = true := by kernel_rfl

/-- catacomb/catacombref07.entered -/
def b67_1 : AC := .seq (.seq (.ops (.op (some 26) (.mv (.t 14)) (.op (some 27) (.fad 4 (.t 9)) (.op (some 28) (.load 1 false (.t 27)) (.op (some 29) (.len false (.t 28)) (.op (some 30) (.bin .lss (.t 26) (.t 29)) (.nil)))))))
 (.cond (.t 30) (.skip) (.exit 0)))
 (.seq (.block 1 (.seq (.seq (.ops (.op (some 33) (.mv (.t 13)) (.op (some 34) (.un .not (.t 33)) (.op (some 35) (.mv (.t 34)) (.sc 44 true 35 36 43 (.op (some 36) (.fad 4 (.t 9)) (.op (some 37) (.load 1 false (.t 36)) (.op (some 38) (.mv (.t 14)) (.op (some 39) (.iad 3 (.t 37) (.t 38)) (.op (some 40) (.fad 0 (.t 39)) (.op (some 41) (.load 1 false (.t 40)) (.op (some 42) (.mv (.t 2)) (.op (some 43) (.bin .gtr (.t 41) (.t 42)) (.nil))))))))) (.t 43) (.nil))))))
 (.cond (.t 44) (.seq (.ops (.op (some 45) (.mv (.t 12)) (.op (some 46) (.load 3 true (.t 11)) (.op (some 47) (.bslh 3 (.agg [.str [], .int .i64 0, .int .i64 0]) 1 [(0, (.t 46))]) (.op (some 48) (.app 3 32 (.t 45) (.t 47)) (.op (some 12) (.mv (.t 48)) (.nil)))))))
 (.ops (.op (some 13) (.mv (.c (.bool true))) (.nil)))) (.skip)))
 (.ops (.op (some 49) (.mv (.t 12)) (.op (some 50) (.fad 4 (.t 9)) (.op (some 51) (.load 1 false (.t 50)) (.op (some 52) (.mv (.t 14)) (.op (some 53) (.iad 3 (.t 51) (.t 52)) (.op (some 54) (.load 3 true (.t 53)) (.op (some 55) (.bslh 3 (.agg [.str [], .int .i64 0, .int .i64 0]) 1 [(0, (.t 54))]) (.op (some 56) (.app 3 32 (.t 49) (.t 55)) (.op (some 12) (.mv (.t 56)) (.nil)))))))))))))
 (.ops (.op (some 31) (.mv (.t 14)) (.op (some 32) (.bin .add (.t 31) (.c (.int .i64 1))) (.op (some 14) (.mv (.t 32)) (.nil))))))
def c67_1 : AC := b67_1
@[simp] theorem e67_1 {Γ : Tab} {V : Nat → Bool} {ρ : Type} (k : AX → St → Option ρ) (s : St) : eval Γ c67_1 V ρ k s = eval Γ b67_1 V ρ k s := rfl
def c67 : AF := AF.mk 72 [.cell 8 3 true] (.seq (.ops (.op (some 4) (.box (.t 0)) (.op (some 8) (.alloc [.lst true [], .int .i64 0, .int .i64 0]) (.nil))))
 (.seq (.ops (.op (some 16) (.load 3 true (.t 4)) (.op (some 17) (.mv (.t 1)) (.op (some 18) (.call 29 [(.t 16), (.t 17)]) (.op (some 15) (.mv (.t 18)) (.op (some 19) (.ext (.t 15) 0) (.op (some 20) (.ext (.t 15) 1) (.op (some 9) (.alloc [.int .i64 0, .int .i64 0, .int .i64 0, .lst true [], .lst true [], .int .i64 0]) (.op none (.store 6 (.t 9) (.t 19)) (.op (some 10) (.mv (.t 20)) (.nil)))))))))))
 (.seq (.ops (.op (some 21) (.mv (.t 2)) (.op (some 22) (.mv (.t 3)) (.op (some 23) (.fad 2 (.t 4)) (.op (some 24) (.load 1 false (.t 23)) (.op (some 25) (.build [.str [], .int .i64 0, .int .i64 0] [(0, 1, (.t 21)), (1, 1, (.t 22)), (2, 1, (.t 24))]) (.op (some 11) (.alloc [.str [], .int .i64 0, .int .i64 0]) (.op none (.store 3 (.t 11) (.t 25)) (.nil)))))))))
 (.seq (.ops (.op (some 12) (.mv (.c (.lst true []))) (.nil)))
 (.seq (.ops (.op (some 13) (.mv (.c (.bool false))) (.nil)))
 (.seq (.seq (.ops (.op (some 14) (.mv (.c (.int .i64 0))) (.nil)))
 (.block 0 (.loop [12, 13, 14] [(12, 14), (26, 56)] [(12, 3)] [(.exit 0, [12, 13])] c67_1)))
 (.seq (.seq (.ops (.op (some 57) (.mv (.t 13)) (.op (some 58) (.un .not (.t 57)) (.nil))))
 (.cond (.t 58) (.ops (.op (some 59) (.mv (.t 12)) (.op (some 60) (.load 3 true (.t 11)) (.op (some 61) (.bslh 3 (.agg [.str [], .int .i64 0, .int .i64 0]) 1 [(0, (.t 60))]) (.op (some 62) (.app 3 32 (.t 59) (.t 61)) (.op (some 12) (.mv (.t 62)) (.nil))))))) (.skip)))
 (.seq (.ops (.op (some 63) (.mv (.t 12)) (.op (some 64) (.fad 4 (.t 9)) (.op none (.store 1 (.t 64) (.t 63)) (.nil)))))
 (.seq (.ops (.op (some 65) (.fad 2 (.t 4)) (.op (some 66) (.load 1 false (.t 65)) (.op (some 67) (.bin .add (.t 66) (.c (.int .i64 1))) (.op (some 68) (.fad 2 (.t 4)) (.op none (.store 1 (.t 68) (.t 67)) (.nil)))))))
 (.seq (.ops (.op (some 69) (.load 3 true (.t 4)) (.op (some 70) (.load 6 true (.t 9)) (.op (some 71) (.call 68 [(.t 69), (.t 70)]) (.op none (.store 3 (.t 8) (.t 71)) (.nil))))))
 (.ret)))))))))))

theorem ok67 : okF Try.prog 67 c67 = true := by kernel_rfl

/-- catacomb/catacombref07.with -/
def b68_1 : AC := .seq (.seq (.ops (.op (some 8) (.mv (.t 7)) (.op (some 9) (.fad 0 (.t 2)) (.op (some 10) (.load 1 false (.t 9)) (.op (some 11) (.len false (.t 10)) (.op (some 12) (.bin .lss (.t 8) (.t 11)) (.nil)))))))
 (.cond (.t 12) (.skip) (.exit 0)))
 (.seq (.block 1 (.seq (.seq (.ops (.op (some 15) (.mv (.t 6)) (.op (some 16) (.un .not (.t 15)) (.op (some 17) (.mv (.t 16)) (.sc 27 true 17 18 26 (.op (some 18) (.fad 0 (.t 2)) (.op (some 19) (.load 1 false (.t 18)) (.op (some 20) (.mv (.t 7)) (.op (some 21) (.iad 6 (.t 19) (.t 20)) (.op (some 22) (.fad 0 (.t 21)) (.op (some 23) (.load 1 false (.t 22)) (.op (some 24) (.fad 0 (.t 3)) (.op (some 25) (.loadr 1 false (.t 24)) (.op (some 26) (.bin .geq (.t 23) (.t 25)) (.nil)))))))))) (.t 26) (.nil))))))
 (.cond (.t 27) (.seq (.ops (.op (some 28) (.mv (.t 5)) (.op (some 29) (.loadr 6 true (.t 3)) (.op (some 30) (.bslh 6 (.agg [.int .i64 0, .int .i64 0, .int .i64 0, .lst true [], .lst true [], .int .i64 0]) 1 [(0, (.t 29))]) (.op (some 31) (.app 6 80 (.t 28) (.t 30)) (.op (some 5) (.mv (.t 31)) (.nil)))))))
 (.ops (.op (some 6) (.mv (.c (.bool true))) (.nil)))) (.skip)))
 (.seq (.ops (.op (some 32) (.fad 0 (.t 2)) (.op (some 33) (.load 1 false (.t 32)) (.op (some 34) (.mv (.t 7)) (.op (some 35) (.iad 6 (.t 33) (.t 34)) (.op (some 36) (.fad 0 (.t 35)) (.op (some 37) (.load 1 false (.t 36)) (.op (some 38) (.fad 0 (.t 3)) (.op (some 39) (.loadr 1 false (.t 38)) (.op (some 40) (.bin .neq (.t 37) (.t 39)) (.nil)))))))))))
 (.cond (.t 40) (.ops (.op (some 41) (.mv (.t 5)) (.op (some 42) (.fad 0 (.t 2)) (.op (some 43) (.load 1 false (.t 42)) (.op (some 44) (.mv (.t 7)) (.op (some 45) (.iad 6 (.t 43) (.t 44)) (.op (some 46) (.load 6 true (.t 45)) (.op (some 47) (.bslh 6 (.agg [.int .i64 0, .int .i64 0, .int .i64 0, .lst true [], .lst true [], .int .i64 0]) 1 [(0, (.t 46))]) (.op (some 48) (.app 6 80 (.t 41) (.t 47)) (.op (some 5) (.mv (.t 48)) (.nil))))))))))) (.skip)))))
 (.ops (.op (some 13) (.mv (.t 7)) (.op (some 14) (.bin .add (.t 13) (.c (.int .i64 1))) (.op (some 7) (.mv (.t 14)) (.nil))))))
def c68_1 : AC := b68_1
@[simp] theorem e68_1 {Γ : Tab} {V : Nat → Bool} {ρ : Type} (k : AX → St → Option ρ) (s : St) : eval Γ c68_1 V ρ k s = eval Γ b68_1 V ρ k s := rfl
def c68 : AF := AF.mk 58 [.cell 4 3 true] (.seq (.ops (.op (some 2) (.box (.t 0)) (.op (some 3) (.rbox (.t 1)) (.op (some 4) (.alloc [.lst true [], .int .i64 0, .int .i64 0]) (.nil)))))
 (.seq (.ops (.op (some 5) (.mv (.c (.lst true []))) (.nil)))
 (.seq (.ops (.op (some 6) (.mv (.c (.bool false))) (.nil)))
 (.seq (.seq (.ops (.op (some 7) (.mv (.c (.int .i64 0))) (.nil)))
 (.block 0 (.loop [5, 6, 7] [(5, 48)] [(5, 6)] [(.exit 0, [5, 6])] c68_1)))
 (.seq (.seq (.ops (.op (some 49) (.mv (.t 6)) (.op (some 50) (.un .not (.t 49)) (.nil))))
 (.cond (.t 50) (.ops (.op (some 51) (.mv (.t 5)) (.op (some 52) (.loadr 6 true (.t 3)) (.op (some 53) (.bslh 6 (.agg [.int .i64 0, .int .i64 0, .int .i64 0, .lst true [], .lst true [], .int .i64 0]) 1 [(0, (.t 52))]) (.op (some 54) (.app 6 80 (.t 51) (.t 53)) (.op (some 5) (.mv (.t 54)) (.nil))))))) (.skip)))
 (.seq (.ops (.op (some 55) (.mv (.t 5)) (.op (some 56) (.fad 0 (.t 2)) (.op none (.store 1 (.t 56) (.t 55)) (.nil)))))
 (.seq (.ops (.op (some 57) (.load 3 true (.t 2)) (.op none (.store 3 (.t 4) (.t 57)) (.nil))))
 (.ret))))))))

theorem ok68 : okF Try.prog 68 c68 = true := by kernel_rfl

/-- catacomb/catacombref07.Look -/
def c69 : AF := AF.mk 34 [.t 6, .t 7] (.seq (.ops (.op (some 3) (.rbox (.t 0)) (.op (some 6) (.mv (.c (.int .i64 0))) (.op (some 7) (.mv (.c (.int .i64 0))) (.nil)))))
 (.seq (.ops (.op (some 12) (.loadr 3 true (.t 3)) (.op (some 13) (.mv (.t 1)) (.op (some 14) (.call 87 [(.t 12), (.t 13)]) (.op (some 11) (.mv (.t 14)) (.op (some 15) (.ext (.t 11) 0) (.op (some 16) (.ext (.t 11) 1) (.op (some 8) (.alloc [.int .i64 0, .int .i64 0, .int .i64 0, .lst true [], .lst true [], .int .i64 0]) (.op none (.store 6 (.t 8) (.t 15)) (.op (some 9) (.mv (.t 16)) (.nil)))))))))))
 (.seq (.seq (.ops (.op (some 17) (.mv (.t 9)) (.op (some 18) (.bin .neq (.t 17) (.c (.int .i64 0))) (.nil))))
 (.cond (.t 18) (.seq (.ops (.op (some 19) (.mv (.t 9)) (.op (some 6) (.mv (.c (.int .i64 0))) (.op (some 7) (.mv (.t 19)) (.nil)))))
 (.ret)) (.skip)))
 (.seq (.seq (.ops (.op (some 20) (.mv (.t 2)) (.op (some 21) (.call 88 [(.t 20)]) (.op (some 22) (.un .not (.t 21)) (.nil)))))
 (.cond (.t 22) (.seq (.ops (.op (some 6) (.mv (.c (.int .i64 0))) (.op (some 7) (.mv (.c (.int .i64 60))) (.nil))))
 (.ret)) (.skip)))
 (.seq (.ops (.op (some 23) (.load 6 true (.t 8)) (.op (some 24) (.mv (.t 2)) (.op (some 25) (.call 89 [(.t 23), (.t 24)]) (.op (some 10) (.mv (.t 25)) (.nil))))))
 (.seq (.seq (.ops (.op (some 26) (.mv (.t 10)) (.op (some 27) (.bin .lss (.t 26) (.c (.int .i64 0))) (.nil))))
 (.cond (.t 27) (.seq (.ops (.op (some 6) (.mv (.c (.int .i64 0))) (.op (some 7) (.mv (.c (.int .i64 70))) (.nil))))
 (.ret)) (.skip)))
 (.seq (.ops (.op (some 28) (.fad 4 (.t 8)) (.op (some 29) (.load 1 false (.t 28)) (.op (some 30) (.mv (.t 10)) (.op (some 31) (.iad 3 (.t 29) (.t 30)) (.op (some 32) (.fad 1 (.t 31)) (.op (some 33) (.load 1 false (.t 32)) (.op (some 6) (.mv (.t 33)) (.op (some 7) (.mv (.c (.int .i64 0))) (.nil))))))))))
 (.ret))))))))

theorem ok69 : okF Try.prog 69 c69 = true := by kernel_rfl

/-- catacomb/catacombref07.unnamed -/
def c70 : AF := AF.mk 26 [.cell 4 3 true] (.seq (.ops (.op (some 2) (.rbox (.t 0)) (.op (some 4) (.alloc [.lst true [], .int .i64 0, .int .i64 0]) (.nil))))
 (.seq (.ops (.op (some 8) (.loadr 3 true (.t 2)) (.op (some 9) (.mv (.t 1)) (.op (some 10) (.call 29 [(.t 8), (.t 9)]) (.op (some 7) (.mv (.t 10)) (.op (some 11) (.ext (.t 7) 0) (.op (some 12) (.ext (.t 7) 1) (.op (some 5) (.alloc [.int .i64 0, .int .i64 0, .int .i64 0, .lst true [], .lst true [], .int .i64 0]) (.op none (.store 6 (.t 5) (.t 11)) (.op (some 6) (.mv (.t 12)) (.nil)))))))))))
 (.seq (.seq (.ops (.op (some 13) (.fad 1 (.t 5)) (.op (some 14) (.load 1 false (.t 13)) (.op (some 15) (.bin .eql (.t 14) (.c (.int .i64 2))) (.nil)))))
 (.cond (.t 15) (.seq (.ops (.op (some 16) (.loadr 3 true (.t 2)) (.op (some 17) (.mv (.t 1)) (.op (some 18) (.call 86 [(.t 16), (.t 17)]) (.op none (.store 3 (.t 4) (.t 18)) (.nil))))))
 (.ret)) (.skip)))
 (.seq (.ops (.op (some 19) (.fad 2 (.t 5)) (.op (some 20) (.load 1 false (.t 19)) (.op (some 21) (.bin .sub (.t 20) (.c (.int .i64 1))) (.op (some 22) (.fad 2 (.t 5)) (.op none (.store 1 (.t 22) (.t 21)) (.nil)))))))
 (.seq (.ops (.op (some 23) (.loadr 3 true (.t 2)) (.op (some 24) (.load 6 true (.t 5)) (.op (some 25) (.call 68 [(.t 23), (.t 24)]) (.op none (.store 3 (.t 4) (.t 25)) (.nil))))))
 (.ret))))))

theorem ok70 : okF Try.prog 70 c70 = true := by kernel_rfl

/-- catacomb/catacombref07.left -/
def b71_1 : AC := .seq (.seq (.ops (.op (some 17) (.mv (.t 10)) (.op (some 18) (.fad 4 (.t 7)) (.op (some 19) (.load 1 false (.t 18)) (.op (some 20) (.len false (.t 19)) (.op (some 21) (.bin .lss (.t 17) (.t 20)) (.nil)))))))
 (.cond (.t 21) (.skip) (.exit 0)))
 (.seq (.block 1 (.seq (.ops (.op (some 24) (.fad 4 (.t 7)) (.op (some 25) (.load 1 false (.t 24)) (.op (some 26) (.mv (.t 10)) (.op (some 27) (.iad 3 (.t 25) (.t 26)) (.op (some 28) (.fad 0 (.t 27)) (.op (some 29) (.load 1 false (.t 28)) (.op (some 30) (.mv (.t 2)) (.op (some 31) (.bin .neq (.t 29) (.t 30)) (.nil))))))))))
 (.cond (.t 31) (.ops (.op (some 32) (.mv (.t 9)) (.op (some 33) (.fad 4 (.t 7)) (.op (some 34) (.load 1 false (.t 33)) (.op (some 35) (.mv (.t 10)) (.op (some 36) (.iad 3 (.t 34) (.t 35)) (.op (some 37) (.load 3 true (.t 36)) (.op (some 38) (.bslh 3 (.agg [.str [], .int .i64 0, .int .i64 0]) 1 [(0, (.t 37))]) (.op (some 39) (.app 3 32 (.t 32) (.t 38)) (.op (some 9) (.mv (.t 39)) (.nil))))))))))) (.skip))))
 (.ops (.op (some 22) (.mv (.t 10)) (.op (some 23) (.bin .add (.t 22) (.c (.int .i64 1))) (.op (some 10) (.mv (.t 23)) (.nil))))))
def c71_1 : AC := b71_1
@[simp] theorem e71_1 {Γ : Tab} {V : Nat → Bool} {ρ : Type} (k : AX → St → Option ρ) (s : St) : eval Γ c71_1 V ρ k s = eval Γ b71_1 V ρ k s := rfl
def c71 : AF := AF.mk 45 [.cell 6 3 true] (.seq (.ops (.op (some 3) (.rbox (.t 0)) (.op (some 6) (.alloc [.lst true [], .int .i64 0, .int .i64 0]) (.nil))))
 (.seq (.ops (.op (some 12) (.loadr 3 true (.t 3)) (.op (some 13) (.mv (.t 1)) (.op (some 14) (.call 29 [(.t 12), (.t 13)]) (.op (some 11) (.mv (.t 14)) (.op (some 15) (.ext (.t 11) 0) (.op (some 16) (.ext (.t 11) 1) (.op (some 7) (.alloc [.int .i64 0, .int .i64 0, .int .i64 0, .lst true [], .lst true [], .int .i64 0]) (.op none (.store 6 (.t 7) (.t 15)) (.op (some 8) (.mv (.t 16)) (.nil)))))))))))
 (.seq (.ops (.op (some 9) (.mv (.c (.lst true []))) (.nil)))
 (.seq (.seq (.ops (.op (some 10) (.mv (.c (.int .i64 0))) (.nil)))
 (.block 0 (.loop [9, 10] [(9, 10), (17, 39)] [(9, 3)] [(.exit 0, [9])] c71_1)))
 (.seq (.ops (.op (some 40) (.mv (.t 9)) (.op (some 41) (.fad 4 (.t 7)) (.op none (.store 1 (.t 41) (.t 40)) (.nil)))))
 (.seq (.ops (.op (some 42) (.loadr 3 true (.t 3)) (.op (some 43) (.load 6 true (.t 7)) (.op (some 44) (.call 68 [(.t 42), (.t 43)]) (.op none (.store 3 (.t 6) (.t 44)) (.nil))))))
 (.ret)))))))

theorem ok71 : okF Try.prog 71 c71 = true := by kernel_rfl

/-- (*catacomb/tree.grove).get -/
def c72 : AF := AF.mk 25 [.cell 4 6 true, .t 5] (.seq (.ops (.op (some 4) (.alloc [.int .i64 0, .int .i64 0, .int .i64 0, .lst true [], .lst true [], .int .i64 0]) (.op (some 5) (.mv (.c (.bool false))) (.nil))))
 (.seq (.ops (.op (some 9) (.mv (.t 0)) (.op (some 10) (.mv (.t 1)) (.op (some 11) (.call 91 [(.t 9), (.t 10)]) (.op (some 8) (.mv (.t 11)) (.op (some 12) (.ext (.t 8) 0) (.op (some 13) (.ext (.t 8) 1) (.op (some 6) (.mv (.t 12)) (.op (some 7) (.mv (.t 13)) (.nil))))))))))
 (.seq (.seq (.ops (.op (some 14) (.mv (.t 7)) (.op (some 15) (.un .not (.t 14)) (.nil))))
 (.cond (.t 15) (.seq (.ops (.op (some 16) (.build [.int .i64 0, .int .i64 0, .int .i64 0, .lst true [], .lst true [], .int .i64 0] []) (.op none (.store 6 (.t 4) (.t 16)) (.op (some 5) (.mv (.c (.bool false))) (.nil)))))
 (.ret)) (.skip)))
 (.seq (.ops (.op (some 17) (.mv (.t 0)) (.op (some 18) (.nck (.t 17)) (.op (some 19) (.fad 0 (.t 18)) (.op (some 20) (.fad 0 (.t 19)) (.op (some 21) (.load 1 false (.t 20)) (.op (some 22) (.mv (.t 6)) (.op (some 23) (.iad 6 (.t 21) (.t 22)) (.op (some 24) (.load 6 true (.t 23)) (.op none (.store 6 (.t 4) (.t 24)) (.op (some 5) (.mv (.c (.bool true))) (.nil))))))))))))
 (.ret)))))

theorem ok72 : okF Try.prog 72 c72 = true := by kernel_rfl

/-- cmp.Or[int] -/
def b73_1 : AC := .seq (.ops (.op (some 9) (.bin .lss (.t 8) (.t 7)) (.nil)))
 (.seq (.cond (.t 9) (.skip) (.exit 0))
 (.seq (.block 1 (.seq (.ops (.op (some 10) (.iad 1 (.t 6) (.t 8)) (.op (some 11) (.load 1 false (.t 10)) (.op (some 5) (.mv (.t 11)) (.nil)))))
 (.seq (.ops (.op (some 12) (.mv (.t 5)) (.op (some 13) (.mv (.t 3)) (.op (some 14) (.bin .neq (.t 12) (.t 13)) (.nil)))))
 (.cond (.t 14) (.seq (.ops (.op (some 15) (.mv (.t 5)) (.op (some 2) (.mv (.t 15)) (.nil))))
 (.ret)) (.skip)))))
 (.ops (.op (some 16) (.bin .add (.t 8) (.c (.int .i64 1))) (.op (some 8) (.mv (.t 16)) (.nil))))))
def c73_1 : AC := b73_1
@[simp] theorem e73_1 {Γ : Tab} {V : Nat → Bool} {ρ : Type} (k : AX → St → Option ρ) (s : St) : eval Γ c73_1 V ρ k s = eval Γ b73_1 V ρ k s := rfl
def c73 : AF := AF.mk 18 [.t 2] (.seq (.ops (.op (some 2) (.mv (.c (.int .i64 0))) (.nil)))
 (.seq (.ops (.op (some 3) (.mv (.c (.int .i64 0))) (.nil)))
 (.seq (.seq (.ops (.op (some 6) (.mv (.t 0)) (.op (some 7) (.len false (.t 6)) (.op (some 8) (.mv (.c (.int .i64 0))) (.nil)))))
 (.block 0 (.loop [8] [(2, 2), (5, 5), (8, 16)] [] [(.exit 0, []), (.ret, [2])] c73_1)))
 (.seq (.ops (.op (some 17) (.mv (.t 3)) (.op (some 2) (.mv (.t 17)) (.nil))))
 (.ret)))))

theorem ok73 : okF Try.prog 73 c73 = true := by kernel_rfl

/-- cmp.Compare[int] -/
def c74 : AF := AF.mk 20 [.t 4] (.seq (.ops (.op (some 4) (.mv (.c (.int .i64 0))) (.nil)))
 (.seq (.ops (.op (some 7) (.mv (.t 0)) (.op (some 8) (.call 92 [(.t 7)]) (.op (some 5) (.mv (.t 8)) (.nil)))))
 (.seq (.ops (.op (some 9) (.mv (.t 1)) (.op (some 10) (.call 92 [(.t 9)]) (.op (some 6) (.mv (.t 10)) (.nil)))))
 (.seq (.seq (.ops (.op (some 11) (.mv (.t 5)) (.nil)))
 (.cond (.t 11) (.seq (.seq (.ops (.op (some 12) (.mv (.t 6)) (.nil)))
 (.cond (.t 12) (.seq (.ops (.op (some 4) (.mv (.c (.int .i64 0))) (.nil)))
 (.ret)) (.skip)))
 (.seq (.ops (.op (some 4) (.mv (.c (.int .i64 (-1)))) (.nil)))
 (.ret))) (.skip)))
 (.seq (.seq (.ops (.op (some 13) (.mv (.t 6)) (.nil)))
 (.cond (.t 13) (.seq (.ops (.op (some 4) (.mv (.c (.int .i64 1))) (.nil)))
 (.ret)) (.skip)))
 (.seq (.seq (.ops (.op (some 14) (.mv (.t 0)) (.op (some 15) (.mv (.t 1)) (.op (some 16) (.bin .lss (.t 14) (.t 15)) (.nil)))))
 (.cond (.t 16) (.seq (.ops (.op (some 4) (.mv (.c (.int .i64 (-1)))) (.nil)))
 (.ret)) (.skip)))
 (.seq (.seq (.ops (.op (some 17) (.mv (.t 0)) (.op (some 18) (.mv (.t 1)) (.op (some 19) (.bin .gtr (.t 17) (.t 18)) (.nil)))))
 (.cond (.t 19) (.seq (.ops (.op (some 4) (.mv (.c (.int .i64 1))) (.nil)))
 (.ret)) (.skip)))
 (.seq (.ops (.op (some 4) (.mv (.c (.int .i64 0))) (.nil)))
 (.ret)))))))))

theorem ok74 : okF Try.prog 74 c74 = true := by kernel_rfl

/-- slices.ContainsFunc[[]catacomb/api.Hold,catacomb/api.Hold] -/
def c77 : AF := AF.mk 9 [.t 4] (.seq (.ops (.op (some 4) (.mv (.c (.bool false))) (.nil)))
 (.seq (.ops (.op (some 5) (.mv (.t 0)) (.op (some 6) (.mv (.t 1)) (.op (some 7) (.call 45 [(.t 5), (.t 6)]) (.op (some 8) (.bin .geq (.t 7) (.c (.int .i64 0))) (.op (some 4) (.mv (.t 8)) (.nil)))))))
 (.ret)))

theorem ok77 : okF Try.prog 77 c77 = true := by kernel_rfl

/-- catacomb/hold.held$1 -/
def c78 : AF := AF.mk 8 [.t 3] (.seq (.ops (.op (some 2) (.rbox (.t 0)) (.op (some 3) (.mv (.c (.bool false))) (.nil))))
 (.seq (.ops (.op (some 4) (.fad 2 (.t 2)) (.op (some 5) (.loadr 1 false (.t 4)) (.op (some 6) (.load 1 false (.t 1)) (.op (some 7) (.bin .eql (.t 5) (.t 6)) (.op (some 3) (.mv (.t 7)) (.nil)))))))
 (.ret)))

theorem ok78 : okF Try.prog 78 c78 = true := by kernel_rfl

/-- (*catacomb/tree.grove).drop -/
def c79 : AF := AF.mk 27 [] (.seq (.ops (.op (some 7) (.mv (.t 0)) (.op (some 8) (.mv (.t 1)) (.op (some 9) (.call 91 [(.t 7), (.t 8)]) (.op (some 6) (.mv (.t 9)) (.op (some 10) (.ext (.t 6) 0) (.op (some 11) (.ext (.t 6) 1) (.op (some 4) (.mv (.t 10)) (.op (some 5) (.mv (.t 11)) (.nil))))))))))
 (.seq (.ops (.op (some 12) (.mv (.t 5)) (.nil)))
 (.cond (.t 12) (.ops (.op (some 13) (.mv (.t 0)) (.op (some 14) (.mv (.t 0)) (.op (some 15) (.nck (.t 14)) (.op (some 16) (.fad 0 (.t 15)) (.op (some 17) (.fad 0 (.t 16)) (.op (some 18) (.load 1 false (.t 17)) (.op (some 19) (.call 95 [(.t 18)]) (.op (some 20) (.mv (.t 4)) (.op (some 21) (.mv (.t 4)) (.op (some 22) (.bin .add (.t 21) (.c (.int .i64 1))) (.op (some 23) (.call 94 [(.t 19), (.t 20), (.t 22)]) (.op (some 24) (.nck (.t 13)) (.op (some 25) (.fad 0 (.t 24)) (.op (some 26) (.fad 0 (.t 25)) (.op none (.store 1 (.t 26) (.t 23)) (.nil))))))))))))))))) (.skip))))

theorem ok79 : okF Try.prog 79 c79 = true := by kernel_rfl

/-- catacomb/catacomblaw07.Done -/
def c80 : AF := AF.mk 123 [.cell 4 3 true, .t 5, .t 6] (.seq (.ops (.op (some 2) (.rbox (.t 0)) (.op (some 3) (.rbox (.t 1)) (.op (some 4) (.alloc [.lst true [], .int .i64 0, .int .i64 0]) (.op (some 5) (.mv (.c (.int .i64 0))) (.op (some 6) (.mv (.c (.int .i64 0))) (.nil)))))))
 (.seq (.ops (.op (some 26) (.loadr 3 true (.t 2)) (.op (some 27) (.fad 1 (.t 3)) (.op (some 28) (.loadr 1 false (.t 27)) (.op (some 29) (.call 12 [(.t 26), (.t 28)]) (.op (some 7) (.mv (.t 29)) (.nil)))))))
 (.seq (.ops (.op (some 30) (.loadr 3 true (.t 2)) (.op (some 31) (.fad 2 (.t 3)) (.op (some 32) (.loadr 1 false (.t 31)) (.op (some 33) (.call 12 [(.t 30), (.t 32)]) (.op (some 8) (.mv (.t 33)) (.nil)))))))
 (.seq (.ops (.op (some 34) (.fad 3 (.t 3)) (.op (some 35) (.loadr 1 false (.t 34)) (.op (some 36) (.call 81 [(.t 35)]) (.op (some 9) (.mv (.t 36)) (.nil))))))
 (.seq (.ops (.op (some 37) (.fad 4 (.t 3)) (.op (some 38) (.loadr 1 false (.t 37)) (.op (some 39) (.call 81 [(.t 38)]) (.op (some 10) (.mv (.t 39)) (.nil))))))
 (.seq (.seq (.ops (.op (some 40) (.fad 0 (.t 3)) (.op (some 41) (.loadr 1 false (.t 40)) (.op (some 42) (.bin .rem (.t 41) (.c (.int .u8 8))) (.nil)))))
 (.block 0 (.seq (.seq (.ops (.op (some 44) (.bin .eql (.t 42) (.c (.int .u8 0))) (.op (some 43) (.mv (.t 44)) (.nil))))
 (.cond (.t 43) (.skip) (.ops (.op (some 45) (.bin .eql (.t 42) (.c (.int .u8 1))) (.op (some 43) (.mv (.t 45)) (.nil))))))
 (.cond (.t 43) (.seq (.ops (.op (some 47) (.loadr 3 true (.t 2)) (.op (some 48) (.mv (.t 7)) (.op (some 49) (.mv (.t 9)) (.op (some 50) (.fad 4 (.t 3)) (.op (some 51) (.loadr 1 false (.t 50)) (.op (some 52) (.conv .i64 (.t 51)) (.op (some 53) (.bin .rem (.t 52) (.c (.int .i64 2))) (.op (some 54) (.bin .add (.t 53) (.c (.int .i64 1))) (.op (some 55) (.call 34 [(.t 47), (.t 48), (.t 49), (.t 54)]) (.op (some 46) (.mv (.t 55)) (.op (some 56) (.ext (.t 46) 0) (.op (some 57) (.ext (.t 46) 1) (.op (some 58) (.ext (.t 46) 2) (.op (some 11) (.alloc [.lst true [], .int .i64 0, .int .i64 0]) (.op none (.store 3 (.t 11) (.t 56)) (.op (some 12) (.mv (.t 57)) (.op (some 13) (.mv (.t 58)) (.nil)))))))))))))))))))
 (.seq (.ops (.op (some 59) (.load 3 true (.t 11)) (.op (some 60) (.mv (.t 12)) (.op (some 61) (.mv (.t 13)) (.op none (.store 3 (.t 4) (.t 59)) (.op (some 5) (.mv (.t 60)) (.op (some 6) (.mv (.t 61)) (.nil))))))))
 (.ret))) (.seq (.ops (.op (some 63) (.bin .eql (.t 42) (.c (.int .u8 2))) (.op (some 62) (.mv (.t 63)) (.nil))))
 (.cond (.t 62) (.seq (.ops (.op (some 65) (.loadr 3 true (.t 2)) (.op (some 66) (.mv (.t 8)) (.op (some 67) (.mv (.t 7)) (.op (some 68) (.mv (.t 9)) (.op (some 69) (.call 96 [(.t 65), (.t 66), (.t 67), (.t 68)]) (.op (some 64) (.mv (.t 69)) (.op (some 70) (.ext (.t 64) 0) (.op (some 71) (.ext (.t 64) 1) (.op (some 14) (.alloc [.lst true [], .int .i64 0, .int .i64 0]) (.op none (.store 3 (.t 14) (.t 70)) (.op (some 15) (.mv (.t 71)) (.nil)))))))))))))
 (.seq (.ops (.op (some 72) (.load 3 true (.t 14)) (.op (some 73) (.mv (.t 15)) (.op none (.store 3 (.t 4) (.t 72)) (.op (some 5) (.mv (.c (.int .i64 0))) (.op (some 6) (.mv (.t 73)) (.nil)))))))
 (.ret))) (.seq (.ops (.op (some 75) (.bin .eql (.t 42) (.c (.int .u8 3))) (.op (some 74) (.mv (.t 75)) (.nil))))
 (.cond (.t 74) (.seq (.ops (.op (some 77) (.loadr 3 true (.t 2)) (.op (some 78) (.mv (.t 7)) (.op (some 79) (.mv (.t 9)) (.op (some 80) (.call 36 [(.t 77), (.t 78), (.t 79)]) (.op (some 76) (.mv (.t 80)) (.op (some 81) (.ext (.t 76) 0) (.op (some 82) (.ext (.t 76) 1) (.op (some 83) (.ext (.t 76) 2) (.op (some 16) (.alloc [.lst true [], .int .i64 0, .int .i64 0]) (.op none (.store 3 (.t 16) (.t 81)) (.op (some 17) (.mv (.t 82)) (.op (some 18) (.mv (.t 83)) (.nil))))))))))))))
 (.seq (.ops (.op (some 84) (.load 3 true (.t 16)) (.op (some 85) (.mv (.t 17)) (.op (some 86) (.mv (.t 18)) (.op none (.store 3 (.t 4) (.t 84)) (.op (some 5) (.mv (.t 85)) (.op (some 6) (.mv (.t 86)) (.nil))))))))
 (.ret))) (.seq (.seq (.ops (.op (some 88) (.bin .eql (.t 42) (.c (.int .u8 4))) (.op (some 87) (.mv (.t 88)) (.nil))))
 (.cond (.t 87) (.skip) (.ops (.op (some 89) (.bin .eql (.t 42) (.c (.int .u8 5))) (.op (some 87) (.mv (.t 89)) (.nil))))))
 (.cond (.t 87) (.seq (.ops (.op (some 91) (.loadr 3 true (.t 2)) (.op (some 92) (.mv (.t 7)) (.op (some 93) (.mv (.t 9)) (.op (some 94) (.mv (.t 8)) (.op (some 95) (.mv (.t 10)) (.op (some 96) (.call 97 [(.t 91), (.t 92), (.t 93), (.t 94), (.t 95)]) (.op (some 90) (.mv (.t 96)) (.op (some 97) (.ext (.t 90) 0) (.op (some 98) (.ext (.t 90) 1) (.op (some 99) (.ext (.t 90) 2) (.op (some 19) (.alloc [.lst true [], .int .i64 0, .int .i64 0]) (.op none (.store 3 (.t 19) (.t 97)) (.op (some 20) (.mv (.t 98)) (.op (some 21) (.mv (.t 99)) (.nil))))))))))))))))
 (.seq (.ops (.op (some 100) (.load 3 true (.t 19)) (.op (some 101) (.mv (.t 20)) (.op (some 102) (.mv (.t 21)) (.op none (.store 3 (.t 4) (.t 100)) (.op (some 5) (.mv (.t 101)) (.op (some 6) (.mv (.t 102)) (.nil))))))))
 (.ret))) (.seq (.ops (.op (some 104) (.bin .eql (.t 42) (.c (.int .u8 6))) (.op (some 103) (.mv (.t 104)) (.nil))))
 (.cond (.t 103) (.seq (.ops (.op (some 106) (.loadr 3 true (.t 2)) (.op (some 107) (.mv (.t 7)) (.op (some 108) (.fad 5 (.t 3)) (.op (some 109) (.loadr 1 false (.t 108)) (.op (some 110) (.call 98 [(.t 106), (.t 107), (.t 109)]) (.op (some 105) (.mv (.t 110)) (.op (some 111) (.ext (.t 105) 0) (.op (some 112) (.ext (.t 105) 1) (.op (some 22) (.alloc [.lst true [], .int .i64 0, .int .i64 0]) (.op none (.store 3 (.t 22) (.t 111)) (.op (some 23) (.mv (.t 112)) (.nil)))))))))))))
 (.seq (.ops (.op (some 113) (.load 3 true (.t 22)) (.op (some 114) (.mv (.t 23)) (.op none (.store 3 (.t 4) (.t 113)) (.op (some 5) (.mv (.c (.int .i64 0))) (.op (some 6) (.mv (.t 114)) (.nil)))))))
 (.ret))) (.skip)))))))))))))
 (.seq (.ops (.op (some 116) (.loadr 3 true (.t 2)) (.op (some 117) (.mv (.t 7)) (.op (some 118) (.call 65 [(.t 116), (.t 117)]) (.op (some 115) (.mv (.t 118)) (.op (some 119) (.ext (.t 115) 0) (.op (some 120) (.ext (.t 115) 1) (.op (some 24) (.alloc [.lst true [], .int .i64 0, .int .i64 0]) (.op none (.store 3 (.t 24) (.t 119)) (.op (some 25) (.mv (.t 120)) (.nil)))))))))))
 (.seq (.ops (.op (some 121) (.load 3 true (.t 24)) (.op (some 122) (.mv (.t 25)) (.op none (.store 3 (.t 4) (.t 121)) (.op (some 5) (.mv (.c (.int .i64 0))) (.op (some 6) (.mv (.t 122)) (.nil)))))))
 (.ret)))))))))

theorem ok80 : okF Try.prog 80 c80 = true := by kernel_rfl

/-- catacomb/catacomblaw07.Name -/
def c81 : AF := AF.mk 11 [.t 2] (.seq (.ops (.op (some 2) (.mv (.c (.str []))) (.nil)))
 (.seq (.ops (.op (some 4) (.bslh 1 (.str []) 6 [(0, (.c (.str [97]))), (1, (.c (.str [98]))), (2, (.c (.str [99]))), (3, (.c (.str [100]))), (4, (.c (.str [101]))), (5, (.c (.str [46, 46])))]) (.op (some 3) (.mv (.t 4)) (.nil))))
 (.seq (.ops (.op (some 5) (.mv (.t 3)) (.op (some 6) (.mv (.t 0)) (.op (some 7) (.conv .i64 (.t 6)) (.op (some 8) (.bin .rem (.t 7) (.c (.int .i64 6))) (.op (some 9) (.iad 1 (.t 5) (.t 8)) (.op (some 10) (.load 1 false (.t 9)) (.op (some 2) (.mv (.t 10)) (.nil)))))))))
 (.ret))))

theorem ok81 : okF Try.prog 81 c81 = true := by kernel_rfl

/-- catacomb/catacombref08.orphan -/
def c82 : AF := AF.mk 24 [.t 4] (.seq (.ops (.op (some 2) (.rbox (.t 0)) (.op (some 4) (.mv (.c (.bool false))) (.nil))))
 (.seq (.ops (.op (some 8) (.loadr 3 true (.t 2)) (.op (some 9) (.mv (.t 1)) (.op (some 10) (.call 29 [(.t 8), (.t 9)]) (.op (some 7) (.mv (.t 10)) (.op (some 11) (.ext (.t 7) 0) (.op (some 12) (.ext (.t 7) 1) (.op (some 5) (.alloc [.int .i64 0, .int .i64 0, .int .i64 0, .lst true [], .lst true [], .int .i64 0]) (.op none (.store 6 (.t 5) (.t 11)) (.op (some 6) (.mv (.t 12)) (.nil)))))))))))
 (.seq (.ops (.op (some 13) (.mv (.t 6)) (.op (some 14) (.mv (.t 13)) (.sc 18 true 14 15 17 (.op (some 15) (.fad 1 (.t 5)) (.op (some 16) (.load 1 false (.t 15)) (.op (some 17) (.bin .eql (.t 16) (.c (.int .i64 1))) (.nil)))) (.t 17) (.op (some 19) (.mv (.t 18)) (.sc 23 true 19 20 22 (.op (some 20) (.fad 2 (.t 5)) (.op (some 21) (.load 1 false (.t 20)) (.op (some 22) (.bin .eql (.t 21) (.c (.int .i64 0))) (.nil)))) (.t 22) (.op (some 4) (.mv (.t 23)) (.nil))))))))
 (.ret))))

theorem ok82 : okF Try.prog 82 c82 = true := by kernel_rfl

/-- slices.IndexFunc[[]int,int] -/
def b83_1 : AC := .seq (.ops (.op (some 9) (.bin .lss (.t 8) (.t 7)) (.nil)))
 (.seq (.cond (.t 9) (.skip) (.exit 0))
 (.seq (.block 1 (.seq (.ops (.op (some 10) (.mv (.t 8)) (.op (some 5) (.mv (.t 10)) (.nil))))
 (.seq (.ops (.op (some 11) (.mv (.t 1)) (.op (some 12) (.mv (.t 0)) (.op (some 13) (.mv (.t 5)) (.op (some 14) (.iad 1 (.t 12) (.t 13)) (.op (some 15) (.load 1 false (.t 14)) (.op (some 16) (.callv (.t 11) [(.t 15)]) (.nil))))))))
 (.cond (.t 16) (.seq (.ops (.op (some 17) (.mv (.t 5)) (.op (some 4) (.mv (.t 17)) (.nil))))
 (.ret)) (.skip)))))
 (.ops (.op (some 18) (.bin .add (.t 8) (.c (.int .i64 1))) (.op (some 8) (.mv (.t 18)) (.nil))))))
def c83_1 : AC := b83_1
@[simp] theorem e83_1 {Γ : Tab} {V : Nat → Bool} {ρ : Type} (k : AX → St → Option ρ) (s : St) : eval Γ c83_1 V ρ k s = eval Γ b83_1 V ρ k s := rfl
def c83 : AF := AF.mk 19 [.t 4] (.seq (.ops (.op (some 4) (.mv (.c (.int .i64 0))) (.nil)))
 (.seq (.seq (.ops (.op (some 6) (.mv (.t 0)) (.op (some 7) (.len false (.t 6)) (.op (some 8) (.mv (.c (.int .i64 0))) (.nil)))))
 (.block 0 (.loop [8] [(4, 5), (8, 18)] [] [(.exit 0, []), (.ret, [4])] c83_1)))
 (.seq (.ops (.op (some 4) (.mv (.c (.int .i64 (-1)))) (.nil)))
 (.ret))))

theorem ok83 : okF Try.prog 83 c83 = true := by kernel_rfl

/-- catacomb/catacombref07.names -/
def b84_1 : AC := .seq (.seq (.ops (.op (some 19) (.mv (.t 11)) (.op (some 20) (.fad 0 (.t 3)) (.op (some 21) (.loadr 1 false (.t 20)) (.op (some 22) (.mv (.t 10)) (.op (some 23) (.iad 6 (.t 21) (.t 22)) (.op (some 24) (.fad 4 (.t 23)) (.op (some 25) (.load 1 false (.t 24)) (.op (some 26) (.len false (.t 25)) (.op (some 27) (.bin .lss (.t 19) (.t 26)) (.nil)))))))))))
 (.cond (.t 27) (.skip) (.exit 2)))
 (.seq (.block 3 (.seq (.ops (.op (some 30) (.fad 0 (.t 3)) (.op (some 31) (.loadr 1 false (.t 30)) (.op (some 32) (.mv (.t 10)) (.op (some 33) (.iad 6 (.t 31) (.t 32)) (.op (some 34) (.fad 4 (.t 33)) (.op (some 35) (.load 1 false (.t 34)) (.op (some 36) (.mv (.t 11)) (.op (some 37) (.iad 3 (.t 35) (.t 36)) (.op (some 38) (.fad 1 (.t 37)) (.op (some 39) (.load 1 false (.t 38)) (.op (some 40) (.mv (.t 1)) (.op (some 41) (.bin .eql (.t 39) (.t 40)) (.nil))))))))))))))
 (.cond (.t 41) (.seq (.ops (.op (some 42) (.mv (.t 8)) (.op (some 43) (.bin .add (.t 42) (.c (.int .i64 1))) (.op (some 8) (.mv (.t 43)) (.nil)))))
 (.seq (.ops (.op (some 44) (.fad 0 (.t 3)) (.op (some 45) (.loadr 1 false (.t 44)) (.op (some 46) (.mv (.t 10)) (.op (some 47) (.iad 6 (.t 45) (.t 46)) (.op (some 48) (.fad 0 (.t 47)) (.op (some 49) (.load 1 false (.t 48)) (.op (some 50) (.mv (.t 2)) (.op (some 51) (.bin .eql (.t 49) (.t 50)) (.nil))))))))))
 (.cond (.t 51) (.ops (.op (some 52) (.mv (.t 9)) (.op (some 53) (.bin .add (.t 52) (.c (.int .i64 1))) (.op (some 9) (.mv (.t 53)) (.nil))))) (.skip)))) (.skip))))
 (.ops (.op (some 28) (.mv (.t 11)) (.op (some 29) (.bin .add (.t 28) (.c (.int .i64 1))) (.op (some 11) (.mv (.t 29)) (.nil))))))
def c84_1 : AC := b84_1
@[simp] theorem e84_1 {Γ : Tab} {V : Nat → Bool} {ρ : Type} (k : AX → St → Option ρ) (s : St) : eval Γ c84_1 V ρ k s = eval Γ b84_1 V ρ k s := rfl
def b84_2 : AC := .seq (.seq (.ops (.op (some 12) (.mv (.t 10)) (.op (some 13) (.fad 0 (.t 3)) (.op (some 14) (.loadr 1 false (.t 13)) (.op (some 15) (.len false (.t 14)) (.op (some 16) (.bin .lss (.t 12) (.t 15)) (.nil)))))))
 (.cond (.t 16) (.skip) (.exit 0)))
 (.seq (.block 1 (.seq (.ops (.op (some 11) (.mv (.c (.int .i64 0))) (.nil)))
 (.block 2 (.loop [8, 9, 11] [(8, 9), (11, 11), (19, 53)] [] [(.exit 2, [8, 9])] c84_1))))
 (.ops (.op (some 17) (.mv (.t 10)) (.op (some 18) (.bin .add (.t 17) (.c (.int .i64 1))) (.op (some 10) (.mv (.t 18)) (.nil))))))
def c84_2 : AC := b84_2
@[simp] theorem e84_2 {Γ : Tab} {V : Nat → Bool} {ρ : Type} (k : AX → St → Option ρ) (s : St) : eval Γ c84_2 V ρ k s = eval Γ b84_2 V ρ k s := rfl
def c84 : AF := AF.mk 56 [.t 6, .t 7] (.seq (.ops (.op (some 3) (.rbox (.t 0)) (.op (some 6) (.mv (.c (.int .i64 0))) (.op (some 7) (.mv (.c (.int .i64 0))) (.nil)))))
 (.seq (.ops (.op (some 8) (.mv (.c (.int .i64 0))) (.nil)))
 (.seq (.ops (.op (some 9) (.mv (.c (.int .i64 0))) (.nil)))
 (.seq (.seq (.ops (.op (some 10) (.mv (.c (.int .i64 0))) (.nil)))
 (.block 0 (.loop [8, 9, 10] [(8, 53)] [] [(.exit 0, [8, 9])] c84_2)))
 (.seq (.ops (.op (some 54) (.mv (.t 8)) (.op (some 55) (.mv (.t 9)) (.op (some 6) (.mv (.t 54)) (.op (some 7) (.mv (.t 55)) (.nil))))))
 (.ret))))))

theorem ok84 : okF Try.prog 84 c84 = true := by kernel_rfl

/-- catacomb/catacombref07.ents -/
def b85_1 : AC := .seq (.seq (.ops (.op (some 63) (.mv (.t 7)) (.op (some 64) (.mv (.t 5)) (.op (some 65) (.bin .lss (.t 63) (.t 64)) (.nil)))))
 (.cond (.t 65) (.skip) (.exit 2)))
 (.seq (.block 3 (.seq (.ops (.op (some 68) (.fad 4 (.t 3)) (.op (some 69) (.loadr 1 false (.t 68)) (.op (some 70) (.mv (.t 7)) (.op (some 71) (.iad 3 (.t 69) (.t 70)) (.op (some 72) (.fad 2 (.t 71)) (.op (some 73) (.load 1 false (.t 72)) (.op (some 74) (.fad 2 (.t 6)) (.op (some 75) (.load 1 false (.t 74)) (.op (some 76) (.bin .eql (.t 73) (.t 75)) (.nil)))))))))))
 (.cond (.t 76) (.seq (.ops (.op (some 4) (.mv (.c (.bool false))) (.nil)))
 (.ret)) (.skip))))
 (.ops (.op (some 66) (.mv (.t 7)) (.op (some 67) (.bin .add (.t 66) (.c (.int .i64 1))) (.op (some 7) (.mv (.t 67)) (.nil))))))
def c85_1 : AC := b85_1
@[simp] theorem e85_1 {Γ : Tab} {V : Nat → Bool} {ρ : Type} (k : AX → St → Option ρ) (s : St) : eval Γ c85_1 V ρ k s = eval Γ b85_1 V ρ k s := rfl
def b85_2 : AC := .seq (.seq (.ops (.op (some 12) (.mv (.t 5)) (.op (some 13) (.fad 4 (.t 3)) (.op (some 14) (.loadr 1 false (.t 13)) (.op (some 15) (.len false (.t 14)) (.op (some 16) (.bin .lss (.t 12) (.t 15)) (.nil)))))))
 (.cond (.t 16) (.skip) (.exit 0)))
 (.seq (.block 1 (.seq (.ops (.op (some 19) (.fad 4 (.t 3)) (.op (some 20) (.loadr 1 false (.t 19)) (.op (some 21) (.mv (.t 5)) (.op (some 22) (.iad 3 (.t 20) (.t 21)) (.op (some 23) (.load 3 true (.t 22)) (.op (some 6) (.alloc [.str [], .int .i64 0, .int .i64 0]) (.op none (.store 3 (.t 6) (.t 23)) (.nil)))))))))
 (.seq (.seq (.ops (.op (some 24) (.fad 0 (.t 6)) (.op (some 25) (.load 1 false (.t 24)) (.op (some 26) (.callp 88 [(.t 25)]) (.op (some 27) (.un .not (.t 26)) (.op (some 28) (.mv (.t 27)) (.sc 32 false 28 29 31 (.op (some 29) (.fad 2 (.t 6)) (.op (some 30) (.load 1 false (.t 29)) (.op (some 31) (.bin .lss (.t 30) (.c (.int .i64 1))) (.nil)))) (.t 31) (.op (some 33) (.mv (.t 32)) (.sc 39 false 33 34 38 (.op (some 34) (.fad 2 (.t 6)) (.op (some 35) (.load 1 false (.t 34)) (.op (some 36) (.fad 2 (.t 2)) (.op (some 37) (.loadr 1 false (.t 36)) (.op (some 38) (.bin .geq (.t 35) (.t 37)) (.nil)))))) (.t 38) (.op (some 40) (.mv (.t 39)) (.sc 46 false 40 41 45 (.op (some 41) (.loadr 3 true (.t 2)) (.op (some 42) (.fad 1 (.t 6)) (.op (some 43) (.load 1 false (.t 42)) (.op (some 44) (.callp 63 [(.t 41), (.t 43)]) (.op (some 45) (.bin .lss (.t 44) (.c (.int .i64 0))) (.nil)))))) (.t 45) (.op (some 47) (.mv (.t 46)) (.sc 62 false 47 48 61 (.op (some 48) (.mv (.t 5)) (.op (some 49) (.bin .gtr (.t 48) (.c (.int .i64 0))) (.op (some 50) (.mv (.t 49)) (.sc 61 true 50 51 60 (.op (some 51) (.fad 4 (.t 3)) (.op (some 52) (.loadr 1 false (.t 51)) (.op (some 53) (.mv (.t 5)) (.op (some 54) (.bin .sub (.t 53) (.c (.int .i64 1))) (.op (some 55) (.iad 3 (.t 52) (.t 54)) (.op (some 56) (.fad 0 (.t 55)) (.op (some 57) (.load 1 false (.t 56)) (.op (some 58) (.fad 0 (.t 6)) (.op (some 59) (.load 1 false (.t 58)) (.op (some 60) (.bin .geq (.t 57) (.t 59)) (.nil))))))))))) (.t 60) (.nil))))) (.t 61) (.nil))))))))))))))
 (.cond (.t 62) (.seq (.ops (.op (some 4) (.mv (.c (.bool false))) (.nil)))
 (.ret)) (.skip)))
 (.seq (.ops (.op (some 7) (.mv (.c (.int .i64 0))) (.nil)))
 (.block 2 (.loop [7] [(4, 4), (7, 7), (63, 76)] [] [(.exit 2, []), (.ret, [4])] c85_1))))))
 (.ops (.op (some 17) (.mv (.t 5)) (.op (some 18) (.bin .add (.t 17) (.c (.int .i64 1))) (.op (some 5) (.mv (.t 18)) (.nil))))))
def c85_2 : AC := b85_2
@[simp] theorem e85_2 {Γ : Tab} {V : Nat → Bool} {ρ : Type} (k : AX → St → Option ρ) (s : St) : eval Γ c85_2 V ρ k s = eval Γ b85_2 V ρ k s := rfl
def c85 : AF := AF.mk 77 [.t 4] (.seq (.ops (.op (some 2) (.rbox (.t 0)) (.op (some 3) (.rbox (.t 1)) (.op (some 4) (.mv (.c (.bool false))) (.nil)))))
 (.seq (.seq (.ops (.op (some 8) (.fad 4 (.t 3)) (.op (some 9) (.loadr 1 false (.t 8)) (.op (some 10) (.len false (.t 9)) (.op (some 11) (.bin .gtr (.t 10) (.c (.int .i64 64))) (.nil))))))
 (.cond (.t 11) (.seq (.ops (.op (some 4) (.mv (.c (.bool false))) (.nil)))
 (.ret)) (.skip)))
 (.seq (.seq (.ops (.op (some 5) (.mv (.c (.int .i64 0))) (.nil)))
 (.block 0 (.loop [5] [(4, 7), (12, 76)] [] [(.exit 0, []), (.ret, [4])] c85_2)))
 (.seq (.ops (.op (some 4) (.mv (.c (.bool true))) (.nil)))
 (.ret)))))

theorem ok85 : okF Try.prog 85 c85 = true := by kernel_rfl

/-- catacomb/catacombref07.without -/
def b86_1 : AC := .seq (.seq (.ops (.op (some 7) (.mv (.t 6)) (.op (some 8) (.fad 0 (.t 2)) (.op (some 9) (.load 1 false (.t 8)) (.op (some 10) (.len false (.t 9)) (.op (some 11) (.bin .lss (.t 7) (.t 10)) (.nil)))))))
 (.cond (.t 11) (.skip) (.exit 0)))
 (.seq (.block 1 (.seq (.ops (.op (some 14) (.fad 0 (.t 2)) (.op (some 15) (.load 1 false (.t 14)) (.op (some 16) (.mv (.t 6)) (.op (some 17) (.iad 6 (.t 15) (.t 16)) (.op (some 18) (.fad 0 (.t 17)) (.op (some 19) (.load 1 false (.t 18)) (.op (some 20) (.mv (.t 1)) (.op (some 21) (.bin .neq (.t 19) (.t 20)) (.nil))))))))))
 (.cond (.t 21) (.ops (.op (some 22) (.mv (.t 5)) (.op (some 23) (.fad 0 (.t 2)) (.op (some 24) (.load 1 false (.t 23)) (.op (some 25) (.mv (.t 6)) (.op (some 26) (.iad 6 (.t 24) (.t 25)) (.op (some 27) (.load 6 true (.t 26)) (.op (some 28) (.bslh 6 (.agg [.int .i64 0, .int .i64 0, .int .i64 0, .lst true [], .lst true [], .int .i64 0]) 1 [(0, (.t 27))]) (.op (some 29) (.app 6 80 (.t 22) (.t 28)) (.op (some 5) (.mv (.t 29)) (.nil))))))))))) (.skip))))
 (.ops (.op (some 12) (.mv (.t 6)) (.op (some 13) (.bin .add (.t 12) (.c (.int .i64 1))) (.op (some 6) (.mv (.t 13)) (.nil))))))
def c86_1 : AC := b86_1
@[simp] theorem e86_1 {Γ : Tab} {V : Nat → Bool} {ρ : Type} (k : AX → St → Option ρ) (s : St) : eval Γ c86_1 V ρ k s = eval Γ b86_1 V ρ k s := rfl
def c86 : AF := AF.mk 33 [.cell 4 3 true] (.seq (.ops (.op (some 2) (.box (.t 0)) (.op (some 4) (.alloc [.lst true [], .int .i64 0, .int .i64 0]) (.nil))))
 (.seq (.ops (.op (some 5) (.mv (.c (.lst true []))) (.nil)))
 (.seq (.seq (.ops (.op (some 6) (.mv (.c (.int .i64 0))) (.nil)))
 (.block 0 (.loop [5, 6] [(5, 29)] [(5, 6)] [(.exit 0, [5])] c86_1)))
 (.seq (.ops (.op (some 30) (.mv (.t 5)) (.op (some 31) (.fad 0 (.t 2)) (.op none (.store 1 (.t 31) (.t 30)) (.nil)))))
 (.seq (.ops (.op (some 32) (.load 3 true (.t 2)) (.op none (.store 3 (.t 4) (.t 32)) (.nil))))
 (.ret))))))

theorem ok86 : okF Try.prog 86 c86 = true := by kernel_rfl

/-- catacomb/catacombref07.dir -/
def c87 : AF := AF.mk 22 [.cell 4 6 true, .t 5] (.seq (.ops (.op (some 2) (.rbox (.t 0)) (.op (some 4) (.alloc [.int .i64 0, .int .i64 0, .int .i64 0, .lst true [], .lst true [], .int .i64 0]) (.op (some 5) (.mv (.c (.int .i64 0))) (.nil)))))
 (.seq (.ops (.op (some 9) (.loadr 3 true (.t 2)) (.op (some 10) (.mv (.t 1)) (.op (some 11) (.call 29 [(.t 9), (.t 10)]) (.op (some 8) (.mv (.t 11)) (.op (some 12) (.ext (.t 8) 0) (.op (some 13) (.ext (.t 8) 1) (.op (some 6) (.alloc [.int .i64 0, .int .i64 0, .int .i64 0, .lst true [], .lst true [], .int .i64 0]) (.op none (.store 6 (.t 6) (.t 12)) (.op (some 7) (.mv (.t 13)) (.nil)))))))))))
 (.seq (.seq (.ops (.op (some 14) (.mv (.t 7)) (.op (some 15) (.un .not (.t 14)) (.nil))))
 (.cond (.t 15) (.seq (.ops (.op (some 16) (.build [.int .i64 0, .int .i64 0, .int .i64 0, .lst true [], .lst true [], .int .i64 0] []) (.op none (.store 6 (.t 4) (.t 16)) (.op (some 5) (.mv (.c (.int .i64 70))) (.nil)))))
 (.ret)) (.skip)))
 (.seq (.seq (.ops (.op (some 17) (.fad 1 (.t 6)) (.op (some 18) (.load 1 false (.t 17)) (.op (some 19) (.bin .neq (.t 18) (.c (.int .i64 2))) (.nil)))))
 (.cond (.t 19) (.seq (.ops (.op (some 20) (.build [.int .i64 0, .int .i64 0, .int .i64 0, .lst true [], .lst true [], .int .i64 0] []) (.op none (.store 6 (.t 4) (.t 20)) (.op (some 5) (.mv (.c (.int .i64 73))) (.nil)))))
 (.ret)) (.skip)))
 (.seq (.ops (.op (some 21) (.load 6 true (.t 6)) (.op none (.store 6 (.t 4) (.t 21)) (.op (some 5) (.mv (.c (.int .i64 0))) (.nil)))))
 (.ret))))))

theorem ok87 : okF Try.prog 87 c87 = true := by kernel_rfl

/-- catacomb/catacombref06.Right -/
def b88_1 : AC := .seq (.seq (.ops (.op (some 20) (.mv (.t 3)) (.op (some 21) (.mv (.t 0)) (.op (some 22) (.len true (.t 21)) (.op (some 23) (.bin .lss (.t 20) (.t 22)) (.nil))))))
 (.cond (.t 23) (.skip) (.exit 0)))
 (.seq (.block 1 (.seq (.ops (.op (some 26) (.mv (.t 0)) (.op (some 27) (.mv (.t 3)) (.op (some 28) (.idxs (.t 26) (.t 27)) (.op (some 29) (.bin .lss (.t 28) (.c (.int .u8 32))) (.op (some 30) (.mv (.t 29)) (.sc 35 false 30 31 34 (.op (some 31) (.mv (.t 0)) (.op (some 32) (.mv (.t 3)) (.op (some 33) (.idxs (.t 31) (.t 32)) (.op (some 34) (.bin .eql (.t 33) (.c (.int .u8 47))) (.nil))))) (.t 34) (.nil))))))))
 (.cond (.t 35) (.seq (.ops (.op (some 2) (.mv (.c (.bool false))) (.nil)))
 (.ret)) (.skip))))
 (.ops (.op (some 24) (.mv (.t 3)) (.op (some 25) (.bin .add (.t 24) (.c (.int .i64 1))) (.op (some 3) (.mv (.t 25)) (.nil))))))
def c88_1 : AC := b88_1
@[simp] theorem e88_1 {Γ : Tab} {V : Nat → Bool} {ρ : Type} (k : AX → St → Option ρ) (s : St) : eval Γ c88_1 V ρ k s = eval Γ b88_1 V ρ k s := rfl
def c88 : AF := AF.mk 36 [.t 2] (.seq (.ops (.op (some 2) (.mv (.c (.bool false))) (.nil)))
 (.seq (.seq (.ops (.op (some 4) (.mv (.t 0)) (.op (some 5) (.len true (.t 4)) (.op (some 6) (.bin .lss (.t 5) (.c (.int .i64 1))) (.op (some 7) (.mv (.t 6)) (.sc 11 false 7 8 10 (.op (some 8) (.mv (.t 0)) (.op (some 9) (.len true (.t 8)) (.op (some 10) (.bin .gtr (.t 9) (.c (.int .i64 32))) (.nil)))) (.t 10) (.op (some 12) (.mv (.t 11)) (.sc 15 false 12 13 14 (.op (some 13) (.mv (.t 0)) (.op (some 14) (.bin .eql (.t 13) (.c (.str [46]))) (.nil))) (.t 14) (.op (some 16) (.mv (.t 15)) (.sc 19 false 16 17 18 (.op (some 17) (.mv (.t 0)) (.op (some 18) (.bin .eql (.t 17) (.c (.str [46, 46]))) (.nil))) (.t 18) (.nil)))))))))))
 (.cond (.t 19) (.seq (.ops (.op (some 2) (.mv (.c (.bool false))) (.nil)))
 (.ret)) (.skip)))
 (.seq (.seq (.ops (.op (some 3) (.mv (.c (.int .i64 0))) (.nil)))
 (.block 0 (.loop [3] [(2, 3), (20, 35)] [] [(.exit 0, []), (.ret, [2])] c88_1)))
 (.seq (.ops (.op (some 2) (.mv (.c (.bool true))) (.nil)))
 (.ret)))))

theorem ok88 : okF Try.prog 88 c88 = true := by kernel_rfl

/-- catacomb/catacombref07.named -/
def b89_1 : AC := .seq (.seq (.ops (.op (some 6) (.mv (.t 5)) (.op (some 7) (.fad 4 (.t 2)) (.op (some 8) (.loadr 1 false (.t 7)) (.op (some 9) (.len false (.t 8)) (.op (some 10) (.bin .lss (.t 6) (.t 9)) (.nil)))))))
 (.cond (.t 10) (.skip) (.exit 0)))
 (.seq (.block 1 (.seq (.ops (.op (some 13) (.fad 4 (.t 2)) (.op (some 14) (.loadr 1 false (.t 13)) (.op (some 15) (.mv (.t 5)) (.op (some 16) (.iad 3 (.t 14) (.t 15)) (.op (some 17) (.fad 0 (.t 16)) (.op (some 18) (.load 1 false (.t 17)) (.op (some 19) (.mv (.t 1)) (.op (some 20) (.bin .eql (.t 18) (.t 19)) (.nil))))))))))
 (.cond (.t 20) (.seq (.ops (.op (some 21) (.mv (.t 5)) (.op (some 4) (.mv (.t 21)) (.nil))))
 (.ret)) (.skip))))
 (.ops (.op (some 11) (.mv (.t 5)) (.op (some 12) (.bin .add (.t 11) (.c (.int .i64 1))) (.op (some 5) (.mv (.t 12)) (.nil))))))
def c89_1 : AC := b89_1
@[simp] theorem e89_1 {Γ : Tab} {V : Nat → Bool} {ρ : Type} (k : AX → St → Option ρ) (s : St) : eval Γ c89_1 V ρ k s = eval Γ b89_1 V ρ k s := rfl
def c89 : AF := AF.mk 22 [.t 4] (.seq (.ops (.op (some 2) (.rbox (.t 0)) (.op (some 4) (.mv (.c (.int .i64 0))) (.nil))))
 (.seq (.seq (.ops (.op (some 5) (.mv (.c (.int .i64 0))) (.nil)))
 (.block 0 (.loop [5] [(4, 21)] [] [(.exit 0, []), (.ret, [4])] c89_1)))
 (.seq (.ops (.op (some 4) (.mv (.c (.int .i64 (-1)))) (.nil)))
 (.ret))))

theorem ok89 : okF Try.prog 89 c89 = true := by kernel_rfl

/-- catacomb/catacombref07.full -/
def c90 : AF := AF.mk 21 [.t 4] (.seq (.ops (.op (some 2) (.rbox (.t 0)) (.op (some 3) (.rbox (.t 1)) (.op (some 4) (.mv (.c (.bool false))) (.nil)))))
 (.seq (.ops (.op (some 5) (.fad 4 (.t 3)) (.op (some 6) (.loadr 1 false (.t 5)) (.op (some 7) (.len false (.t 6)) (.op (some 8) (.bin .geq (.t 7) (.c (.int .i64 64))) (.op (some 9) (.mv (.t 8)) (.sc 15 false 9 10 14 (.op (some 10) (.loadr 3 true (.t 2)) (.op (some 11) (.fad 0 (.t 3)) (.op (some 12) (.loadr 1 false (.t 11)) (.op (some 13) (.call 61 [(.t 10), (.t 12)]) (.op (some 14) (.bin .geq (.t 13) (.c (.int .i64 12))) (.nil)))))) (.t 14) (.op (some 16) (.mv (.t 15)) (.sc 20 false 16 17 19 (.op (some 17) (.fad 2 (.t 2)) (.op (some 18) (.loadr 1 false (.t 17)) (.op (some 19) (.bin .geq (.t 18) (.c (.int .i64 1099511627776))) (.nil)))) (.t 19) (.op (some 4) (.mv (.t 20)) (.nil)))))))))))
 (.ret)))

theorem ok90 : okF Try.prog 90 c90 = true := by kernel_rfl

/-- (*catacomb/tree.grove).at -/
def c91 : AF := AF.mk 15 [.t 4, .t 5] (.seq (.ops (.op (some 4) (.mv (.c (.int .i64 0))) (.op (some 5) (.mv (.c (.bool false))) (.nil))))
 (.seq (.ops (.op (some 6) (.mv (.t 0)) (.op (some 7) (.nck (.t 6)) (.op (some 8) (.fad 0 (.t 7)) (.op (some 9) (.fad 0 (.t 8)) (.op (some 10) (.load 1 false (.t 9)) (.op (some 11) (.mv (.t 1)) (.op (some 12) (.call 99 [(.t 10), (.t 11), (.c (.fn (.func 100) [] []))]) (.op (some 13) (.ext (.t 12) 0) (.op (some 14) (.ext (.t 12) 1) (.op (some 4) (.mv (.t 13)) (.op (some 5) (.mv (.t 14)) (.nil)))))))))))))
 (.ret)))

theorem ok91 : okF Try.prog 91 c91 = true := by kernel_rfl

/-- cmp.isNaN[int] -/
def c92 : AF := AF.mk 6 [.t 2] (.seq (.ops (.op (some 2) (.mv (.c (.bool false))) (.nil)))
 (.seq (.ops (.op (some 3) (.mv (.t 0)) (.op (some 4) (.mv (.t 0)) (.op (some 5) (.bin .neq (.t 3) (.t 4)) (.op (some 2) (.mv (.t 5)) (.nil))))))
 (.ret)))

theorem ok92 : okF Try.prog 92 c92 = true := by kernel_rfl

/-- catacomb/catacombref07.Ln -/
def c96 : AF := AF.mk 55 [.cell 8 3 true, .t 9] (.seq (.ops (.op (some 4) (.rbox (.t 0)) (.op (some 8) (.alloc [.lst true [], .int .i64 0, .int .i64 0]) (.op (some 9) (.mv (.c (.int .i64 0))) (.nil)))))
 (.seq (.ops (.op (some 14) (.loadr 3 true (.t 4)) (.op (some 15) (.mv (.t 1)) (.op (some 16) (.call 29 [(.t 14), (.t 15)]) (.op (some 13) (.mv (.t 16)) (.op (some 17) (.ext (.t 13) 0) (.op (some 18) (.ext (.t 13) 1) (.op (some 10) (.alloc [.int .i64 0, .int .i64 0, .int .i64 0, .lst true [], .lst true [], .int .i64 0]) (.op none (.store 6 (.t 10) (.t 17)) (.op (some 11) (.mv (.t 18)) (.nil)))))))))))
 (.seq (.seq (.ops (.op (some 19) (.mv (.t 11)) (.op (some 20) (.un .not (.t 19)) (.op (some 21) (.mv (.t 20)) (.sc 30 false 21 22 29 (.op (some 22) (.fad 1 (.t 10)) (.op (some 23) (.load 1 false (.t 22)) (.op (some 24) (.bin .eql (.t 23) (.c (.int .i64 1))) (.op (some 25) (.mv (.t 24)) (.sc 29 true 25 26 28 (.op (some 26) (.fad 2 (.t 10)) (.op (some 27) (.load 1 false (.t 26)) (.op (some 28) (.bin .eql (.t 27) (.c (.int .i64 0))) (.nil)))) (.t 28) (.nil)))))) (.t 29) (.nil))))))
 (.cond (.t 30) (.seq (.ops (.op (some 31) (.loadr 3 true (.t 4)) (.op none (.store 3 (.t 8) (.t 31)) (.op (some 9) (.mv (.c (.int .i64 70))) (.nil)))))
 (.ret)) (.skip)))
 (.seq (.seq (.ops (.op (some 32) (.fad 1 (.t 10)) (.op (some 33) (.load 1 false (.t 32)) (.op (some 34) (.bin .eql (.t 33) (.c (.int .i64 2))) (.nil)))))
 (.cond (.t 34) (.seq (.ops (.op (some 35) (.loadr 3 true (.t 4)) (.op none (.store 3 (.t 8) (.t 35)) (.op (some 9) (.mv (.c (.int .i64 72))) (.nil)))))
 (.ret)) (.skip)))
 (.seq (.ops (.op (some 36) (.loadr 3 true (.t 4)) (.op (some 37) (.mv (.t 2)) (.op (some 38) (.mv (.t 3)) (.op (some 39) (.call 66 [(.t 36), (.t 37), (.t 38)]) (.op (some 12) (.mv (.t 39)) (.nil)))))))
 (.seq (.seq (.ops (.op (some 40) (.mv (.t 12)) (.op (some 41) (.bin .neq (.t 40) (.c (.int .i64 0))) (.nil))))
 (.cond (.t 41) (.seq (.ops (.op (some 42) (.loadr 3 true (.t 4)) (.op (some 43) (.mv (.t 12)) (.op none (.store 3 (.t 8) (.t 42)) (.op (some 9) (.mv (.t 43)) (.nil))))))
 (.ret)) (.skip)))
 (.seq (.ops (.op (some 44) (.fad 2 (.t 10)) (.op (some 45) (.load 1 false (.t 44)) (.op (some 46) (.bin .add (.t 45) (.c (.int .i64 1))) (.op (some 47) (.fad 2 (.t 10)) (.op none (.store 1 (.t 47) (.t 46)) (.nil)))))))
 (.seq (.ops (.op (some 48) (.loadr 3 true (.t 4)) (.op (some 49) (.load 6 true (.t 10)) (.op (some 50) (.call 68 [(.t 48), (.t 49)]) (.op (some 51) (.mv (.t 2)) (.op (some 52) (.mv (.t 3)) (.op (some 53) (.mv (.t 1)) (.op (some 54) (.call 67 [(.t 50), (.t 51), (.t 52), (.t 53)]) (.op none (.store 3 (.t 8) (.t 54)) (.op (some 9) (.mv (.c (.int .i64 0))) (.nil)))))))))))
 (.ret)))))))))

theorem ok96 : okF Try.prog 96 c96 = true := by kernel_rfl

/-- catacomb/catacombref07.Mv -/
def c97 : AF := AF.mk 151 [.cell 10 3 true, .t 11, .t 12] (.seq (.ops (.op (some 5) (.rbox (.t 0)) (.op (some 10) (.alloc [.lst true [], .int .i64 0, .int .i64 0]) (.op (some 11) (.mv (.c (.int .i64 0))) (.op (some 12) (.mv (.c (.int .i64 0))) (.nil))))))
 (.seq (.ops (.op (some 23) (.loadr 3 true (.t 5)) (.op (some 24) (.mv (.t 1)) (.op (some 25) (.mv (.t 2)) (.op (some 26) (.call 69 [(.t 23), (.t 24), (.t 25)]) (.op (some 22) (.mv (.t 26)) (.op (some 27) (.ext (.t 22) 0) (.op (some 28) (.ext (.t 22) 1) (.op (some 13) (.mv (.t 27)) (.op (some 14) (.mv (.t 28)) (.nil)))))))))))
 (.seq (.seq (.ops (.op (some 29) (.mv (.t 14)) (.op (some 30) (.bin .neq (.t 29) (.c (.int .i64 0))) (.nil))))
 (.cond (.t 30) (.seq (.ops (.op (some 31) (.loadr 3 true (.t 5)) (.op (some 32) (.mv (.t 14)) (.op none (.store 3 (.t 10) (.t 31)) (.op (some 11) (.mv (.c (.int .i64 0))) (.op (some 12) (.mv (.t 32)) (.nil)))))))
 (.ret)) (.skip)))
 (.seq (.ops (.op (some 34) (.loadr 3 true (.t 5)) (.op (some 35) (.mv (.t 3)) (.op (some 36) (.call 87 [(.t 34), (.t 35)]) (.op (some 33) (.mv (.t 36)) (.op (some 37) (.ext (.t 33) 0) (.op (some 38) (.ext (.t 33) 1) (.op (some 15) (.alloc [.int .i64 0, .int .i64 0, .int .i64 0, .lst true [], .lst true [], .int .i64 0]) (.op none (.store 6 (.t 15) (.t 37)) (.op (some 14) (.mv (.t 38)) (.nil)))))))))))
 (.seq (.seq (.ops (.op (some 39) (.mv (.t 14)) (.op (some 40) (.bin .neq (.t 39) (.c (.int .i64 0))) (.nil))))
 (.cond (.t 40) (.seq (.ops (.op (some 41) (.loadr 3 true (.t 5)) (.op (some 42) (.mv (.t 14)) (.op none (.store 3 (.t 10) (.t 41)) (.op (some 11) (.mv (.c (.int .i64 0))) (.op (some 12) (.mv (.t 42)) (.nil)))))))
 (.ret)) (.skip)))
 (.seq (.seq (.ops (.op (some 43) (.mv (.t 4)) (.op (some 44) (.call 88 [(.t 43)]) (.op (some 45) (.un .not (.t 44)) (.nil)))))
 (.cond (.t 45) (.seq (.ops (.op (some 46) (.loadr 3 true (.t 5)) (.op none (.store 3 (.t 10) (.t 46)) (.op (some 11) (.mv (.c (.int .i64 0))) (.op (some 12) (.mv (.c (.int .i64 60))) (.nil))))))
 (.ret)) (.skip)))
 (.seq (.ops (.op (some 16) (.mv (.c (.int .i64 0))) (.nil)))
 (.seq (.ops (.op (some 47) (.load 6 true (.t 15)) (.op (some 48) (.mv (.t 4)) (.op (some 49) (.call 89 [(.t 47), (.t 48)]) (.op (some 17) (.mv (.t 49)) (.nil))))))
 (.seq (.seq (.ops (.op (some 50) (.mv (.t 17)) (.op (some 51) (.bin .geq (.t 50) (.c (.int .i64 0))) (.nil))))
 (.cond (.t 51) (.ops (.op (some 52) (.fad 4 (.t 15)) (.op (some 53) (.load 1 false (.t 52)) (.op (some 54) (.mv (.t 17)) (.op (some 55) (.iad 3 (.t 53) (.t 54)) (.op (some 56) (.fad 1 (.t 55)) (.op (some 57) (.load 1 false (.t 56)) (.op (some 16) (.mv (.t 57)) (.nil))))))))) (.skip)))
 (.seq (.seq (.ops (.op (some 58) (.mv (.t 16)) (.op (some 59) (.mv (.t 13)) (.op (some 60) (.bin .eql (.t 58) (.t 59)) (.nil)))))
 (.cond (.t 60) (.seq (.ops (.op (some 61) (.loadr 3 true (.t 5)) (.op none (.store 3 (.t 10) (.t 61)) (.op (some 11) (.mv (.c (.int .i64 0))) (.op (some 12) (.mv (.c (.int .i64 0))) (.nil))))))
 (.ret)) (.skip)))
 (.seq (.ops (.op (some 63) (.loadr 3 true (.t 5)) (.op (some 64) (.mv (.t 13)) (.op (some 65) (.call 29 [(.t 63), (.t 64)]) (.op (some 62) (.mv (.t 65)) (.op (some 66) (.ext (.t 62) 0) (.op (some 67) (.ext (.t 62) 1) (.op (some 18) (.alloc [.int .i64 0, .int .i64 0, .int .i64 0, .lst true [], .lst true [], .int .i64 0]) (.op none (.store 6 (.t 18) (.t 66)) (.op (some 19) (.mv (.t 67)) (.nil)))))))))))
 (.seq (.seq (.ops (.op (some 68) (.fad 1 (.t 18)) (.op (some 69) (.load 1 false (.t 68)) (.op (some 70) (.bin .eql (.t 69) (.c (.int .i64 2))) (.op (some 71) (.mv (.t 70)) (.sc 76 true 71 72 75 (.op (some 72) (.loadr 3 true (.t 5)) (.op (some 73) (.mv (.t 3)) (.op (some 74) (.mv (.t 13)) (.op (some 75) (.call 62 [(.t 72), (.t 73), (.t 74)]) (.nil))))) (.t 75) (.nil)))))))
 (.cond (.t 76) (.seq (.ops (.op (some 77) (.loadr 3 true (.t 5)) (.op none (.store 3 (.t 10) (.t 77)) (.op (some 11) (.mv (.c (.int .i64 0))) (.op (some 12) (.mv (.c (.int .i64 75))) (.nil))))))
 (.ret)) (.skip)))
 (.seq (.ops (.op (some 78) (.loadr 3 true (.t 5)) (.op (some 79) (.load 6 true (.t 18)) (.op (some 80) (.mv (.t 16)) (.op (some 81) (.call 102 [(.t 78), (.t 79), (.t 80)]) (.op (some 14) (.mv (.t 81)) (.nil)))))))
 (.seq (.seq (.ops (.op (some 82) (.mv (.t 14)) (.op (some 83) (.bin .neq (.t 82) (.c (.int .i64 0))) (.nil))))
 (.cond (.t 83) (.seq (.ops (.op (some 84) (.loadr 3 true (.t 5)) (.op (some 85) (.mv (.t 14)) (.op none (.store 3 (.t 10) (.t 84)) (.op (some 11) (.mv (.c (.int .i64 0))) (.op (some 12) (.mv (.t 85)) (.nil)))))))
 (.ret)) (.skip)))
 (.seq (.ops (.op (some 86) (.loadr 3 true (.t 5)) (.op (some 87) (.mv (.t 3)) (.op (some 88) (.call 61 [(.t 86), (.t 87)]) (.op (some 20) (.mv (.t 88)) (.nil))))))
 (.seq (.seq (.ops (.op (some 89) (.mv (.t 16)) (.op (some 90) (.bin .eql (.t 89) (.c (.int .i64 0))) (.op (some 91) (.mv (.t 90)) (.sc 95 true 91 92 94 (.op (some 92) (.mv (.t 3)) (.op (some 93) (.mv (.t 1)) (.op (some 94) (.bin .neq (.t 92) (.t 93)) (.nil)))) (.t 94) (.op (some 96) (.mv (.t 95)) (.sc 101 true 96 97 100 (.op (some 97) (.fad 4 (.t 15)) (.op (some 98) (.load 1 false (.t 97)) (.op (some 99) (.len false (.t 98)) (.op (some 100) (.bin .geq (.t 99) (.c (.int .i64 64))) (.nil))))) (.t 100) (.op (some 102) (.mv (.t 101)) (.sc 105 false 102 103 104 (.op (some 103) (.mv (.t 20)) (.op (some 104) (.bin .geq (.t 103) (.c (.int .i64 12))) (.nil))) (.t 104) (.op (some 106) (.mv (.t 105)) (.sc 118 false 106 107 117 (.op (some 107) (.fad 1 (.t 18)) (.op (some 108) (.load 1 false (.t 107)) (.op (some 109) (.bin .eql (.t 108) (.c (.int .i64 2))) (.op (some 110) (.mv (.t 109)) (.sc 117 true 110 111 116 (.op (some 111) (.loadr 3 true (.t 5)) (.op (some 112) (.mv (.t 13)) (.op (some 113) (.mv (.t 20)) (.op (some 114) (.bin .add (.t 113) (.c (.int .i64 1))) (.op (some 115) (.call 103 [(.t 111), (.t 112), (.t 114)]) (.op (some 116) (.bin .gtr (.t 115) (.c (.int .i64 12))) (.nil))))))) (.t 116) (.nil)))))) (.t 117) (.op (some 119) (.mv (.t 118)) (.sc 123 false 119 120 122 (.op (some 120) (.fad 2 (.t 5)) (.op (some 121) (.loadr 1 false (.t 120)) (.op (some 122) (.bin .geq (.t 121) (.c (.int .i64 1099511627776))) (.nil)))) (.t 122) (.nil))))))))))))))
 (.cond (.t 123) (.seq (.ops (.op (some 124) (.loadr 3 true (.t 5)) (.op none (.store 3 (.t 10) (.t 124)) (.op (some 11) (.mv (.c (.int .i64 0))) (.op (some 12) (.mv (.c (.int .i64 76))) (.nil))))))
 (.ret)) (.skip)))
 (.seq (.ops (.op (some 125) (.loadr 3 true (.t 5)) (.op (some 126) (.mv (.t 1)) (.op (some 127) (.mv (.t 2)) (.op (some 128) (.call 71 [(.t 125), (.t 126), (.t 127)]) (.op (some 21) (.alloc [.lst true [], .int .i64 0, .int .i64 0]) (.op none (.store 3 (.t 21) (.t 128)) (.nil))))))))
 (.seq (.seq (.ops (.op (some 129) (.mv (.t 16)) (.op (some 130) (.bin .neq (.t 129) (.c (.int .i64 0))) (.nil))))
 (.cond (.t 130) (.ops (.op (some 131) (.load 3 true (.t 21)) (.op (some 132) (.mv (.t 3)) (.op (some 133) (.mv (.t 4)) (.op (some 134) (.call 71 [(.t 131), (.t 132), (.t 133)]) (.op (some 135) (.mv (.t 16)) (.op (some 136) (.call 70 [(.t 134), (.t 135)]) (.op none (.store 3 (.t 21) (.t 136)) (.nil))))))))) (.skip)))
 (.seq (.seq (.ops (.op (some 137) (.fad 1 (.t 18)) (.op (some 138) (.load 1 false (.t 137)) (.op (some 139) (.bin .eql (.t 138) (.c (.int .i64 2))) (.nil)))))
 (.cond (.t 139) (.seq (.ops (.op (some 140) (.mv (.t 3)) (.op (some 141) (.fad 5 (.t 18)) (.op none (.store 1 (.t 141) (.t 140)) (.nil)))))
 (.ops (.op (some 142) (.load 3 true (.t 21)) (.op (some 143) (.load 6 true (.t 18)) (.op (some 144) (.call 68 [(.t 142), (.t 143)]) (.op none (.store 3 (.t 21) (.t 144)) (.nil))))))) (.skip)))
 (.seq (.ops (.op (some 145) (.load 3 true (.t 21)) (.op (some 146) (.mv (.t 3)) (.op (some 147) (.mv (.t 4)) (.op (some 148) (.mv (.t 13)) (.op (some 149) (.call 67 [(.t 145), (.t 146), (.t 147), (.t 148)]) (.op (some 150) (.mv (.t 16)) (.op none (.store 3 (.t 10) (.t 149)) (.op (some 11) (.mv (.t 150)) (.op (some 12) (.mv (.c (.int .i64 0))) (.nil)))))))))))
 (.ret)))))))))))))))))))))

theorem ok97 : okF Try.prog 97 c97 = true := by kernel_rfl

/-- catacomb/catacombref07.Put -/
def c98 : AF := AF.mk 34 [.cell 6 3 true, .t 7] (.seq (.ops (.op (some 3) (.rbox (.t 0)) (.op (some 6) (.alloc [.lst true [], .int .i64 0, .int .i64 0]) (.op (some 7) (.mv (.c (.int .i64 0))) (.nil)))))
 (.seq (.ops (.op (some 11) (.loadr 3 true (.t 3)) (.op (some 12) (.mv (.t 1)) (.op (some 13) (.call 29 [(.t 11), (.t 12)]) (.op (some 10) (.mv (.t 13)) (.op (some 14) (.ext (.t 10) 0) (.op (some 15) (.ext (.t 10) 1) (.op (some 8) (.alloc [.int .i64 0, .int .i64 0, .int .i64 0, .lst true [], .lst true [], .int .i64 0]) (.op none (.store 6 (.t 8) (.t 14)) (.op (some 9) (.mv (.t 15)) (.nil)))))))))))
 (.seq (.seq (.ops (.op (some 16) (.mv (.t 9)) (.op (some 17) (.un .not (.t 16)) (.nil))))
 (.cond (.t 17) (.seq (.ops (.op (some 18) (.loadr 3 true (.t 3)) (.op none (.store 3 (.t 6) (.t 18)) (.op (some 7) (.mv (.c (.int .i64 70))) (.nil)))))
 (.ret)) (.skip)))
 (.seq (.seq (.ops (.op (some 19) (.fad 1 (.t 8)) (.op (some 20) (.load 1 false (.t 19)) (.op (some 21) (.bin .eql (.t 20) (.c (.int .i64 2))) (.nil)))))
 (.cond (.t 21) (.seq (.ops (.op (some 22) (.loadr 3 true (.t 3)) (.op none (.store 3 (.t 6) (.t 22)) (.op (some 7) (.mv (.c (.int .i64 72))) (.nil)))))
 (.ret)) (.skip)))
 (.seq (.seq (.ops (.op (some 23) (.mv (.t 2)) (.op (some 24) (.len false (.t 23)) (.op (some 25) (.bin .gtr (.t 24) (.c (.int .i64 4096))) (.nil)))))
 (.cond (.t 25) (.seq (.ops (.op (some 26) (.loadr 3 true (.t 3)) (.op none (.store 3 (.t 6) (.t 26)) (.op (some 7) (.mv (.c (.int .i64 2))) (.nil)))))
 (.ret)) (.skip)))
 (.seq (.ops (.op (some 27) (.bslh 1 (.int .u8 0) 0 []) (.op (some 28) (.mv (.t 2)) (.op (some 29) (.app 1 1 (.t 27) (.t 28)) (.op (some 30) (.fad 3 (.t 8)) (.op none (.store 1 (.t 30) (.t 29)) (.nil)))))))
 (.seq (.ops (.op (some 31) (.loadr 3 true (.t 3)) (.op (some 32) (.load 6 true (.t 8)) (.op (some 33) (.call 68 [(.t 31), (.t 32)]) (.op none (.store 3 (.t 6) (.t 33)) (.op (some 7) (.mv (.c (.int .i64 0))) (.nil)))))))
 (.ret))))))))

theorem ok98 : okF Try.prog 98 c98 = true := by kernel_rfl

/-- slices.BinarySearchFunc[[]catacomb/api.Node,catacomb/api.Node,int] -/
def b99_1 : AC := .seq (.seq (.ops (.op (some 15) (.mv (.t 9)) (.op (some 16) (.mv (.t 10)) (.op (some 17) (.bin .lss (.t 15) (.t 16)) (.nil)))))
 (.cond (.t 17) (.skip) (.exit 0)))
 (.block 1 (.seq (.ops (.op (some 18) (.mv (.t 9)) (.op (some 19) (.mv (.t 10)) (.op (some 20) (.bin .add (.t 18) (.t 19)) (.op (some 21) (.conv .u64 (.t 20)) (.op (some 22) (.bin .shr (.t 21) (.c (.int .u64 1))) (.op (some 23) (.conv .i64 (.t 22)) (.op (some 11) (.mv (.t 23)) (.nil)))))))))
 (.seq (.ops (.op (some 24) (.mv (.t 2)) (.op (some 25) (.mv (.t 0)) (.op (some 26) (.mv (.t 11)) (.op (some 27) (.iad 6 (.t 25) (.t 26)) (.op (some 28) (.load 6 true (.t 27)) (.op (some 29) (.mv (.t 1)) (.op (some 30) (.callv (.t 24) [(.t 28), (.t 29)]) (.op (some 31) (.bin .lss (.t 30) (.c (.int .i64 0))) (.nil))))))))))
 (.cond (.t 31) (.ops (.op (some 32) (.mv (.t 11)) (.op (some 33) (.bin .add (.t 32) (.c (.int .i64 1))) (.op (some 9) (.mv (.t 33)) (.nil))))) (.ops (.op (some 34) (.mv (.t 11)) (.op (some 10) (.mv (.t 34)) (.nil))))))))
def c99_1 : AC := b99_1
@[simp] theorem e99_1 {Γ : Tab} {V : Nat → Bool} {ρ : Type} (k : AX → St → Option ρ) (s : St) : eval Γ c99_1 V ρ k s = eval Γ b99_1 V ρ k s := rfl
def c99 : AF := AF.mk 49 [.t 6, .t 7] (.seq (.ops (.op (some 6) (.mv (.c (.int .i64 0))) (.op (some 7) (.mv (.c (.bool false))) (.nil))))
 (.seq (.ops (.op (some 12) (.mv (.t 0)) (.op (some 13) (.len false (.t 12)) (.op (some 8) (.mv (.t 13)) (.nil)))))
 (.seq (.ops (.op (some 14) (.mv (.t 8)) (.op (some 9) (.mv (.c (.int .i64 0))) (.op (some 10) (.mv (.t 14)) (.nil)))))
 (.seq (.block 0 (.loop [9, 10] [(9, 11), (15, 34)] [] [(.exit 0, [9])] c99_1))
 (.seq (.ops (.op (some 35) (.mv (.t 9)) (.op (some 36) (.mv (.t 9)) (.op (some 37) (.mv (.t 8)) (.op (some 38) (.bin .lss (.t 36) (.t 37)) (.op (some 39) (.mv (.t 38)) (.sc 48 true 39 40 47 (.op (some 40) (.mv (.t 2)) (.op (some 41) (.mv (.t 0)) (.op (some 42) (.mv (.t 9)) (.op (some 43) (.iad 6 (.t 41) (.t 42)) (.op (some 44) (.load 6 true (.t 43)) (.op (some 45) (.mv (.t 1)) (.op (some 46) (.callv (.t 40) [(.t 44), (.t 45)]) (.op (some 47) (.bin .eql (.t 46) (.c (.int .i64 0))) (.nil))))))))) (.t 47) (.op (some 6) (.mv (.t 35)) (.op (some 7) (.mv (.t 48)) (.nil))))))))))
 (.ret))))))

theorem ok99 : okF Try.prog 99 c99 = true := by kernel_rfl

/-- (*catacomb/tree.grove).at$1 -/
def c100 : AF := AF.mk 9 [.t 4] (.seq (.ops (.op (some 2) (.rbox (.t 0)) (.op (some 4) (.mv (.c (.int .i64 0))) (.nil))))
 (.seq (.ops (.op (some 5) (.fad 0 (.t 2)) (.op (some 6) (.loadr 1 false (.t 5)) (.op (some 7) (.mv (.t 1)) (.op (some 8) (.call 74 [(.t 6), (.t 7)]) (.op (some 4) (.mv (.t 8)) (.nil)))))))
 (.ret)))

theorem ok100 : okF Try.prog 100 c100 = true := by kernel_rfl

/-- catacomb/catacombref07.clash -/
def c102 : AF := AF.mk 37 [.t 6] (.seq (.ops (.op (some 3) (.rbox (.t 0)) (.op (some 4) (.rbox (.t 1)) (.op (some 6) (.mv (.c (.int .i64 0))) (.nil)))))
 (.seq (.ops (.op (some 10) (.loadr 3 true (.t 3)) (.op (some 11) (.mv (.t 2)) (.op (some 12) (.call 29 [(.t 10), (.t 11)]) (.op (some 9) (.mv (.t 12)) (.op (some 13) (.ext (.t 9) 0) (.op (some 14) (.ext (.t 9) 1) (.op (some 7) (.alloc [.int .i64 0, .int .i64 0, .int .i64 0, .lst true [], .lst true [], .int .i64 0]) (.op none (.store 6 (.t 7) (.t 13)) (.op (some 8) (.mv (.t 14)) (.nil)))))))))))
 (.seq (.seq (.ops (.op (some 15) (.mv (.t 8)) (.op (some 16) (.un .not (.t 15)) (.nil))))
 (.cond (.t 16) (.seq (.ops (.op (some 6) (.mv (.c (.int .i64 0))) (.nil)))
 (.ret)) (.skip)))
 (.seq (.seq (.ops (.op (some 17) (.fad 1 (.t 4)) (.op (some 18) (.loadr 1 false (.t 17)) (.op (some 19) (.bin .eql (.t 18) (.c (.int .i64 2))) (.op (some 20) (.mv (.t 19)) (.sc 24 true 20 21 23 (.op (some 21) (.fad 1 (.t 7)) (.op (some 22) (.load 1 false (.t 21)) (.op (some 23) (.bin .neq (.t 22) (.c (.int .i64 2))) (.nil)))) (.t 23) (.nil)))))))
 (.cond (.t 24) (.seq (.ops (.op (some 6) (.mv (.c (.int .i64 73))) (.nil)))
 (.ret)) (.skip)))
 (.seq (.seq (.ops (.op (some 25) (.fad 1 (.t 4)) (.op (some 26) (.loadr 1 false (.t 25)) (.op (some 27) (.bin .neq (.t 26) (.c (.int .i64 2))) (.op (some 28) (.mv (.t 27)) (.sc 32 true 28 29 31 (.op (some 29) (.fad 1 (.t 7)) (.op (some 30) (.load 1 false (.t 29)) (.op (some 31) (.bin .eql (.t 30) (.c (.int .i64 2))) (.nil)))) (.t 31) (.nil)))))))
 (.cond (.t 32) (.seq (.ops (.op (some 6) (.mv (.c (.int .i64 72))) (.nil)))
 (.ret)) (.skip)))
 (.seq (.seq (.ops (.op (some 33) (.fad 4 (.t 7)) (.op (some 34) (.load 1 false (.t 33)) (.op (some 35) (.len false (.t 34)) (.op (some 36) (.bin .gtr (.t 35) (.c (.int .i64 0))) (.nil))))))
 (.cond (.t 36) (.seq (.ops (.op (some 6) (.mv (.c (.int .i64 74))) (.nil)))
 (.ret)) (.skip)))
 (.seq (.ops (.op (some 6) (.mv (.c (.int .i64 0))) (.nil)))
 (.ret))))))))

theorem ok102 : okF Try.prog 102 c102 = true := by kernel_rfl

/-- catacomb/catacombref07.high -/
def b103_1 : AC := .seq (.seq (.ops (.op (some 15) (.mv (.t 9)) (.op (some 16) (.fad 0 (.t 3)) (.op (some 17) (.loadr 1 false (.t 16)) (.op (some 18) (.len false (.t 17)) (.op (some 19) (.bin .lss (.t 15) (.t 18)) (.nil)))))))
 (.cond (.t 19) (.skip) (.exit 0)))
 (.seq (.block 1 (.seq (.ops (.op (some 22) (.fad 0 (.t 3)) (.op (some 23) (.loadr 1 false (.t 22)) (.op (some 24) (.mv (.t 9)) (.op (some 25) (.iad 6 (.t 23) (.t 24)) (.op (some 26) (.load 6 true (.t 25)) (.op (some 10) (.alloc [.int .i64 0, .int .i64 0, .int .i64 0, .lst true [], .lst true [], .int .i64 0]) (.op none (.store 6 (.t 10) (.t 26)) (.nil)))))))))
 (.seq (.ops (.op (some 27) (.fad 1 (.t 10)) (.op (some 28) (.load 1 false (.t 27)) (.op (some 29) (.bin .eql (.t 28) (.c (.int .i64 2))) (.op (some 30) (.mv (.t 29)) (.sc 36 true 30 31 35 (.op (some 31) (.loadr 3 true (.t 3)) (.op (some 32) (.fad 0 (.t 10)) (.op (some 33) (.load 1 false (.t 32)) (.op (some 34) (.mv (.t 1)) (.op (some 35) (.call 62 [(.t 31), (.t 33), (.t 34)]) (.nil)))))) (.t 35) (.nil)))))))
 (.cond (.t 36) (.seq (.ops (.op (some 37) (.mv (.t 2)) (.op (some 38) (.loadr 3 true (.t 3)) (.op (some 39) (.fad 0 (.t 10)) (.op (some 40) (.load 1 false (.t 39)) (.op (some 41) (.call 61 [(.t 38), (.t 40)]) (.op (some 42) (.bin .add (.t 37) (.t 41)) (.op (some 43) (.mv (.t 8)) (.op (some 44) (.bin .sub (.t 42) (.t 43)) (.op (some 11) (.mv (.t 44)) (.nil)))))))))))
 (.seq (.seq (.ops (.op (some 45) (.fad 4 (.t 10)) (.op (some 46) (.load 1 false (.t 45)) (.op (some 47) (.len false (.t 46)) (.op (some 48) (.bin .gtr (.t 47) (.c (.int .i64 0))) (.nil))))))
 (.cond (.t 48) (.ops (.op (some 49) (.mv (.t 11)) (.op (some 50) (.bin .add (.t 49) (.c (.int .i64 1))) (.op (some 11) (.mv (.t 50)) (.nil))))) (.skip)))
 (.ops (.op (some 51) (.mv (.t 7)) (.op (some 52) (.mv (.t 11)) (.op (some 53) (.mm true [(.t 51), (.t 52)]) (.op (some 7) (.mv (.t 53)) (.nil)))))))) (.skip)))))
 (.ops (.op (some 20) (.mv (.t 9)) (.op (some 21) (.bin .add (.t 20) (.c (.int .i64 1))) (.op (some 9) (.mv (.t 21)) (.nil))))))
def c103_1 : AC := b103_1
@[simp] theorem e103_1 {Γ : Tab} {V : Nat → Bool} {ρ : Type} (k : AX → St → Option ρ) (s : St) : eval Γ c103_1 V ρ k s = eval Γ b103_1 V ρ k s := rfl
def c103 : AF := AF.mk 55 [.t 6] (.seq (.ops (.op (some 3) (.rbox (.t 0)) (.op (some 6) (.mv (.c (.int .i64 0))) (.nil))))
 (.seq (.ops (.op (some 7) (.mv (.c (.int .i64 0))) (.nil)))
 (.seq (.ops (.op (some 12) (.loadr 3 true (.t 3)) (.op (some 13) (.mv (.t 1)) (.op (some 14) (.call 61 [(.t 12), (.t 13)]) (.op (some 8) (.mv (.t 14)) (.nil))))))
 (.seq (.seq (.ops (.op (some 9) (.mv (.c (.int .i64 0))) (.nil)))
 (.block 0 (.loop [7, 9] [(7, 7), (9, 11), (15, 53)] [] [(.exit 0, [7])] c103_1)))
 (.seq (.ops (.op (some 54) (.mv (.t 7)) (.op (some 6) (.mv (.t 54)) (.nil))))
 (.ret))))))

theorem ok103 : okF Try.prog 103 c103 = true := by kernel_rfl

end Go.Proofs.Ytdnoopjpkcmpjaa
