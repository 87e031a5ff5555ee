/-
  Literals of functions, for the abstract machine; that they are meant.
-/
import Derived.Test.YtldgegojhaamoaaProg
import Derived.Test.YtldgegojhaamoaaAmZ
import Derived.Test.YtldgegojhaamoaaAmS
import Derived.KernelRfl
set_option linter.unusedSimpArgs false
set_option linter.unusedVariables false
namespace Go.Proofs.Ytldgegojhaamoaa
open Go.Am
/-- catacomb/catacomblaw24.WriteTells -/
def c3 : AF := AF.mk 126 [.t 10] (.seq (.ops (.op (some 10) (.mv (.c (.bool false))) (.nil)))
 (.seq (.ops (.op (some 19) (.call 9 []) (.op (some 11) (.mv (.t 19)) (.nil))))
 (.seq (.seq (.ops (.op (some 20) (.mv (.t 0)) (.op (some 21) (.call 10 [(.t 20)]) (.op (some 22) (.un .not (.t 21)) (.op (some 23) (.mv (.t 22)) (.sc 27 false 23 24 26 (.op (some 24) (.mv (.t 3)) (.op (some 25) (.len false (.t 24)) (.op (some 26) (.bin .gtr (.t 25) (.c (.int .i64 5000))) (.nil)))) (.t 26) (.op (some 28) (.mv (.t 27)) (.sc 32 false 28 29 31 (.op (some 29) (.mv (.t 4)) (.op (some 30) (.len false (.t 29)) (.op (some 31) (.bin .gtr (.t 30) (.c (.int .i64 4096))) (.nil)))) (.t 31) (.nil)))))))))
 (.cond (.t 32) (.seq (.ops (.op (some 33) (.mv (.t 11)) (.op (some 10) (.mv (.t 33)) (.nil))))
 (.ret)) (.skip)))
 (.seq (.ops (.op (some 35) (.mv (.t 4)) (.op (some 36) (.mv (.t 2)) (.op (some 37) (.mv (.t 3)) (.op (some 38) (.call 11 [(.t 35), (.t 36), (.t 37)]) (.op (some 34) (.mv (.t 38)) (.op (some 39) (.ext (.t 34) 0) (.op (some 40) (.ext (.t 34) 1) (.op (some 12) (.mv (.t 39)) (.op (some 13) (.mv (.t 40)) (.nil)))))))))))
 (.seq (.ops (.op (some 42) (.mv (.t 4)) (.op (some 43) (.mv (.t 2)) (.op (some 44) (.mv (.t 3)) (.op (some 45) (.call 12 [(.t 42), (.t 43), (.t 44)]) (.op (some 41) (.mv (.t 45)) (.op (some 46) (.ext (.t 41) 0) (.op (some 47) (.ext (.t 41) 1) (.op (some 14) (.mv (.t 46)) (.op (some 15) (.mv (.t 47)) (.nil)))))))))))
 (.seq (.ops (.op (some 49) (.mv (.t 0)) (.op (some 50) (.call 13 [(.t 49)]) (.op (some 48) (.mv (.t 50)) (.op (some 51) (.ext (.t 48) 0) (.op (some 52) (.ext (.t 48) 1) (.op (some 53) (.ext (.t 48) 2) (.op (some 16) (.alloc [.int .i64 0, .int .i64 0, .lst true []]) (.op none (.store 3 (.t 16) (.t 51)) (.op (some 17) (.mv (.t 52)) (.op (some 18) (.mv (.t 53)) (.nil))))))))))))
 (.seq (.seq (.ops (.op (some 54) (.mv (.t 18)) (.op (some 55) (.mv (.t 0)) (.op (some 56) (.len false (.t 55)) (.op (some 57) (.bin .gtr (.t 56) (.c (.int .i64 0))) (.op (some 58) (.beq true (.t 54) (.t 57)) (.op (some 59) (.mv (.t 58)) (.sc 76 false 59 60 75 (.op (some 60) (.mv (.t 18)) (.op (some 61) (.mv (.t 60)) (.sc 75 true 61 62 74 (.op (some 62) (.load 3 true (.t 16)) (.op (some 63) (.bsl 3 (.agg [.int .i64 0, .int .i64 0, .lst true []]) 1 [(0, (.t 62))]) (.op (some 64) (.mv (.t 0)) (.op (some 65) (.sll 3 (.t 64) none (some (.c (.int .i64 1))) none) (.op (some 66) (.callp 14 [(.t 63), (.t 65)]) (.op (some 67) (.un .not (.t 66)) (.op (some 68) (.mv (.t 67)) (.sc 74 false 68 69 73 (.op (some 69) (.mv (.t 17)) (.op (some 70) (.mv (.t 0)) (.op (some 71) (.sll 3 (.t 70) (some (.c (.int .i64 1))) none none) (.op (some 72) (.callp 14 [(.t 69), (.t 71)]) (.op (some 73) (.un .not (.t 72)) (.nil)))))) (.t 73) (.nil))))))))) (.t 74) (.nil)))) (.t 75) (.op (some 77) (.mv (.t 76)) (.sc 90 false 77 78 89 (.op (some 78) (.mv (.t 18)) (.op (some 79) (.un .not (.t 78)) (.op (some 80) (.mv (.t 79)) (.sc 89 true 80 81 88 (.op (some 81) (.mv (.t 17)) (.op (some 82) (.len false (.t 81)) (.op (some 83) (.bin .gtr (.t 82) (.c (.int .i64 0))) (.op (some 84) (.mv (.t 83)) (.sc 88 false 84 85 87 (.op (some 85) (.fad 0 (.t 16)) (.op (some 86) (.load 1 false (.t 85)) (.op (some 87) (.bin .neq (.t 86) (.c (.int .i64 0))) (.nil)))) (.t 87) (.nil)))))) (.t 88) (.nil))))) (.t 89) (.nil)))))))))))
 (.cond (.t 90) (.seq (.ops (.op (some 10) (.mv (.c (.bool false))) (.nil)))
 (.ret)) (.skip)))
 (.seq (.ops (.op (some 91) (.mv (.t 11)) (.op (some 92) (.mv (.t 91)) (.sc 104 true 92 93 103 (.op (some 93) (.mv (.t 0)) (.op (some 94) (.mv (.t 1)) (.op (some 95) (.mv (.t 2)) (.op (some 96) (.mv (.t 3)) (.op (some 97) (.call 15 [(.t 93), (.t 94), (.t 95), (.t 96)]) (.op (some 98) (.mv (.t 0)) (.op (some 99) (.mv (.t 1)) (.op (some 100) (.mv (.t 2)) (.op (some 101) (.mv (.t 3)) (.op (some 102) (.call 16 [(.t 98), (.t 99), (.t 100), (.t 101)]) (.op (some 103) (.call 14 [(.t 97), (.t 102)]) (.nil)))))))))))) (.t 103) (.op (some 105) (.mv (.t 104)) (.sc 109 true 105 106 108 (.op (some 106) (.mv (.t 13)) (.op (some 107) (.mv (.t 15)) (.op (some 108) (.bin .eql (.t 106) (.t 107)) (.nil)))) (.t 108) (.op (some 110) (.mv (.t 109)) (.sc 114 true 110 111 113 (.op (some 111) (.mv (.t 12)) (.op (some 112) (.mv (.t 14)) (.op (some 113) (.call 17 [(.t 111), (.t 112)]) (.nil)))) (.t 113) (.op (some 115) (.mv (.t 114)) (.sc 125 true 115 116 124 (.op (some 116) (.mv (.t 0)) (.op (some 117) (.mv (.t 1)) (.op (some 118) (.mv (.t 4)) (.op (some 119) (.call 18 [(.t 116), (.t 117), (.t 118)]) (.op (some 120) (.mv (.t 0)) (.op (some 121) (.mv (.t 1)) (.op (some 122) (.mv (.t 4)) (.op (some 123) (.call 19 [(.t 120), (.t 121), (.t 122)]) (.op (some 124) (.call 17 [(.t 119), (.t 123)]) (.nil)))))))))) (.t 124) (.op (some 10) (.mv (.t 125)) (.nil))))))))))))
 (.ret)))))))))

theorem ok3 : okF Try.prog 3 c3 = true := by kernel_rfl

/-- catacomb/catacomblaw24.WriteTakes -/
def c4 : AF := AF.mk 65 [.t 6] (.seq (.ops (.op (some 4) (.box (.t 1)) (.op (some 6) (.mv (.c (.bool false))) (.nil))))
 (.seq (.ops (.op (some 12) (.call 9 []) (.op (some 7) (.mv (.t 12)) (.nil))))
 (.seq (.seq (.ops (.op (some 13) (.mv (.t 0)) (.op (some 14) (.call 20 [(.t 13)]) (.op (some 15) (.un .not (.t 14)) (.op (some 16) (.mv (.t 15)) (.sc 21 false 16 17 20 (.op (some 17) (.load 3 true (.t 4)) (.op (some 18) (.bslh 3 (.agg [.int .i64 0, .int .i64 0, .lst true []]) 1 [(0, (.t 17))]) (.op (some 19) (.call 10 [(.t 18)]) (.op (some 20) (.un .not (.t 19)) (.nil))))) (.t 20) (.op (some 22) (.mv (.t 21)) (.sc 25 false 22 23 24 (.op (some 23) (.mv (.t 2)) (.op (some 24) (.bin .lss (.t 23) (.c (.int .i64 0))) (.nil))) (.t 24) (.nil)))))))))
 (.cond (.t 25) (.seq (.ops (.op (some 26) (.mv (.t 7)) (.op (some 6) (.mv (.t 26)) (.nil))))
 (.ret)) (.skip)))
 (.seq (.ops (.op (some 28) (.mv (.t 0)) (.op (some 29) (.load 3 true (.t 4)) (.op (some 30) (.mv (.t 2)) (.op (some 31) (.call 21 [(.t 28), (.t 29), (.t 30)]) (.op (some 27) (.mv (.t 31)) (.op (some 32) (.ext (.t 27) 0) (.op (some 33) (.ext (.t 27) 1) (.op (some 8) (.mv (.t 32)) (.op (some 9) (.mv (.t 33)) (.nil)))))))))))
 (.seq (.ops (.op (some 35) (.mv (.t 0)) (.op (some 36) (.load 3 true (.t 4)) (.op (some 37) (.mv (.t 2)) (.op (some 38) (.call 22 [(.t 35), (.t 36), (.t 37)]) (.op (some 34) (.mv (.t 38)) (.op (some 39) (.ext (.t 34) 0) (.op (some 40) (.ext (.t 34) 1) (.op (some 10) (.mv (.t 39)) (.op (some 11) (.mv (.t 40)) (.nil)))))))))))
 (.seq (.ops (.op (some 41) (.mv (.t 7)) (.op (some 42) (.mv (.t 41)) (.sc 46 true 42 43 45 (.op (some 43) (.mv (.t 9)) (.op (some 44) (.mv (.t 11)) (.op (some 45) (.bin .eql (.t 43) (.t 44)) (.nil)))) (.t 45) (.op (some 47) (.mv (.t 46)) (.sc 51 true 47 48 50 (.op (some 48) (.mv (.t 8)) (.op (some 49) (.mv (.t 10)) (.op (some 50) (.callp 23 [(.t 48), (.t 49)]) (.nil)))) (.t 50) (.op (some 52) (.mv (.t 51)) (.sc 64 true 52 53 63 (.op (some 53) (.mv (.t 0)) (.op (some 54) (.fad 0 (.t 4)) (.op (some 55) (.load 1 false (.t 54)) (.op (some 56) (.mv (.t 2)) (.op (some 57) (.callp 24 [(.t 53), (.t 55), (.t 56)]) (.op (some 58) (.mv (.t 0)) (.op (some 59) (.fad 0 (.t 4)) (.op (some 60) (.load 1 false (.t 59)) (.op (some 61) (.mv (.t 2)) (.op (some 62) (.callp 25 [(.t 58), (.t 60), (.t 61)]) (.op (some 63) (.callp 23 [(.t 57), (.t 62)]) (.nil)))))))))))) (.t 63) (.op (some 6) (.mv (.t 64)) (.nil))))))))))
 (.ret)))))))

theorem ok4 : okF Try.prog 4 c4 = true := by kernel_rfl

/-- catacomb/catacomblaw24.WriteSees -/
def c5 : AF := AF.mk 130 [.t 8] (.seq (.ops (.op (some 5) (.box (.t 1)) (.op (some 8) (.mv (.c (.bool false))) (.nil))))
 (.seq (.ops (.op (some 15) (.call 9 []) (.op (some 9) (.mv (.t 15)) (.nil))))
 (.seq (.seq (.ops (.op (some 16) (.mv (.t 0)) (.op (some 17) (.call 10 [(.t 16)]) (.op (some 18) (.un .not (.t 17)) (.op (some 19) (.mv (.t 18)) (.sc 24 false 19 20 23 (.op (some 20) (.load 3 true (.t 5)) (.op (some 21) (.bslh 3 (.agg [.int .i64 0, .int .i64 0, .lst true []]) 1 [(0, (.t 20))]) (.op (some 22) (.call 10 [(.t 21)]) (.op (some 23) (.un .not (.t 22)) (.nil))))) (.t 23) (.op (some 25) (.mv (.t 24)) (.sc 29 false 25 26 28 (.op (some 26) (.mv (.t 2)) (.op (some 27) (.len false (.t 26)) (.op (some 28) (.bin .gtr (.t 27) (.c (.int .i64 4096))) (.nil)))) (.t 28) (.nil)))))))))
 (.cond (.t 29) (.seq (.ops (.op (some 30) (.mv (.t 9)) (.op (some 8) (.mv (.t 30)) (.nil))))
 (.ret)) (.skip)))
 (.seq (.ops (.op (some 31) (.mv (.t 0)) (.op (some 32) (.fad 0 (.t 5)) (.op (some 33) (.load 1 false (.t 32)) (.op (some 34) (.mv (.t 2)) (.op (some 35) (.call 18 [(.t 31), (.t 33), (.t 34)]) (.op (some 10) (.mv (.t 35)) (.nil))))))))
 (.seq (.ops (.op (some 36) (.mv (.t 0)) (.op (some 37) (.fad 0 (.t 5)) (.op (some 38) (.load 1 false (.t 37)) (.op (some 39) (.fad 1 (.t 5)) (.op (some 40) (.load 1 false (.t 39)) (.op (some 41) (.fad 2 (.t 5)) (.op (some 42) (.load 1 false (.t 41)) (.op (some 43) (.call 15 [(.t 36), (.t 38), (.t 40), (.t 42)]) (.op (some 11) (.mv (.t 43)) (.nil)))))))))))
 (.seq (.ops (.op (some 44) (.mv (.t 11)) (.op (some 45) (.fad 0 (.t 5)) (.op (some 46) (.load 1 false (.t 45)) (.op (some 47) (.mv (.t 2)) (.op (some 48) (.call 18 [(.t 44), (.t 46), (.t 47)]) (.op (some 12) (.mv (.t 48)) (.nil))))))))
 (.seq (.ops (.op (some 50) (.mv (.t 10)) (.op (some 51) (.fad 1 (.t 5)) (.op (some 52) (.load 1 false (.t 51)) (.op (some 53) (.fad 2 (.t 5)) (.op (some 54) (.load 1 false (.t 53)) (.op (some 55) (.call 11 [(.t 50), (.t 52), (.t 54)]) (.op (some 49) (.mv (.t 55)) (.op (some 56) (.ext (.t 49) 0) (.op (some 57) (.ext (.t 49) 1) (.op (some 13) (.mv (.t 56)) (.op (some 14) (.mv (.t 57)) (.nil)))))))))))))
 (.seq (.seq (.ops (.op (some 58) (.mv (.t 14)) (.op (some 59) (.bin .neq (.t 58) (.c (.int .i64 0))) (.op (some 60) (.mv (.t 59)) (.sc 65 false 60 61 64 (.op (some 61) (.mv (.t 12)) (.op (some 62) (.mv (.t 13)) (.op (some 63) (.callp 17 [(.t 61), (.t 62)]) (.op (some 64) (.un .not (.t 63)) (.nil))))) (.t 64) (.op (some 66) (.mv (.t 65)) (.sc 76 false 66 67 75 (.op (some 67) (.mv (.t 12)) (.op (some 68) (.len false (.t 67)) (.op (some 69) (.fad 1 (.t 5)) (.op (some 70) (.load 1 false (.t 69)) (.op (some 71) (.fad 2 (.t 5)) (.op (some 72) (.load 1 false (.t 71)) (.op (some 73) (.len false (.t 72)) (.op (some 74) (.bin .add (.t 70) (.t 73)) (.op (some 75) (.bin .lss (.t 68) (.t 74)) (.nil)))))))))) (.t 75) (.op (some 77) (.mv (.t 76)) (.sc 92 false 77 78 91 (.op (some 78) (.mv (.t 12)) (.op (some 79) (.fad 1 (.t 5)) (.op (some 80) (.load 1 false (.t 79)) (.op (some 81) (.fad 1 (.t 5)) (.op (some 82) (.load 1 false (.t 81)) (.op (some 83) (.fad 2 (.t 5)) (.op (some 84) (.load 1 false (.t 83)) (.op (some 85) (.len false (.t 84)) (.op (some 86) (.bin .add (.t 82) (.t 85)) (.op (some 87) (.sll 1 (.t 78) (some (.t 80)) (some (.t 86)) none) (.op (some 88) (.fad 2 (.t 5)) (.op (some 89) (.load 1 false (.t 88)) (.op (some 90) (.callp 17 [(.t 87), (.t 89)]) (.op (some 91) (.un .not (.t 90)) (.nil))))))))))))))) (.t 91) (.nil))))))))))
 (.cond (.t 92) (.seq (.ops (.op (some 8) (.mv (.c (.bool false))) (.nil)))
 (.ret)) (.skip)))
 (.seq (.ops (.op (some 93) (.mv (.t 9)) (.op (some 94) (.mv (.t 93)) (.sc 97 true 94 95 96 (.op (some 95) (.mv (.t 11)) (.op (some 96) (.call 26 [(.t 95)]) (.nil))) (.t 96) (.op (some 98) (.mv (.t 97)) (.sc 104 true 98 99 103 (.op (some 99) (.mv (.t 11)) (.op (some 100) (.len false (.t 99)) (.op (some 101) (.mv (.t 0)) (.op (some 102) (.len false (.t 101)) (.op (some 103) (.bin .geq (.t 100) (.t 102)) (.nil)))))) (.t 103) (.op (some 105) (.mv (.t 104)) (.sc 112 true 105 106 111 (.op (some 106) (.mv (.t 11)) (.op (some 107) (.len false (.t 106)) (.op (some 108) (.mv (.t 0)) (.op (some 109) (.len false (.t 108)) (.op (some 110) (.bin .add (.t 109) (.c (.int .i64 1))) (.op (some 111) (.bin .leq (.t 107) (.t 110)) (.nil))))))) (.t 111) (.op (some 113) (.mv (.t 112)) (.sc 129 true 113 114 128 (.op (some 114) (.mv (.t 3)) (.op (some 115) (.fad 0 (.t 5)) (.op (some 116) (.load 1 false (.t 115)) (.op (some 117) (.bin .eql (.t 114) (.t 116)) (.op (some 118) (.mv (.t 117)) (.sc 128 false 118 119 127 (.op (some 119) (.mv (.t 11)) (.op (some 120) (.mv (.t 3)) (.op (some 121) (.mv (.t 2)) (.op (some 122) (.call 18 [(.t 119), (.t 120), (.t 121)]) (.op (some 123) (.mv (.t 0)) (.op (some 124) (.mv (.t 3)) (.op (some 125) (.mv (.t 2)) (.op (some 126) (.call 18 [(.t 123), (.t 124), (.t 125)]) (.op (some 127) (.call 17 [(.t 122), (.t 126)]) (.nil)))))))))) (.t 127) (.nil))))))) (.t 128) (.op (some 8) (.mv (.t 129)) (.nil))))))))))))
 (.ret))))))))))

theorem ok5 : okF Try.prog 5 c5 = true := by kernel_rfl

/-- catacomb/catacomblaw24.WriteBack -/
def b6_1 : AC := .seq (.seq (.ops (.op (some 26) (.mv (.t 9)) (.op (some 27) (.mv (.t 0)) (.op (some 28) (.len false (.t 27)) (.op (some 29) (.bin .leq (.t 26) (.t 28)) (.nil))))))
 (.cond (.t 29) (.skip) (.exit 0)))
 (.seq (.block 1 (.seq (.ops (.op (some 33) (.mv (.t 0)) (.op (some 34) (.mv (.t 1)) (.op (some 35) (.mv (.t 2)) (.op (some 36) (.mv (.t 9)) (.op (some 37) (.call 27 [(.t 33), (.t 34), (.t 35), (.t 36)]) (.op (some 32) (.mv (.t 37)) (.op (some 38) (.ext (.t 32) 0) (.op (some 39) (.ext (.t 32) 1) (.op (some 10) (.mv (.t 38)) (.op (some 11) (.mv (.t 39)) (.nil))))))))))))
 (.seq (.seq (.ops (.op (some 40) (.mv (.t 11)) (.op (some 41) (.len false (.t 40)) (.op (some 42) (.mv (.t 0)) (.op (some 43) (.len false (.t 42)) (.op (some 44) (.mv (.t 9)) (.op (some 45) (.bin .sub (.t 43) (.t 44)) (.op (some 46) (.bin .neq (.t 41) (.t 45)) (.op (some 47) (.mv (.t 46)) (.sc 55 false 47 48 54 (.op (some 48) (.mv (.t 11)) (.op (some 49) (.mv (.t 1)) (.op (some 50) (.mv (.t 10)) (.op (some 51) (.call 18 [(.t 48), (.t 49), (.t 50)]) (.op (some 52) (.mv (.t 8)) (.op (some 53) (.call 17 [(.t 51), (.t 52)]) (.op (some 54) (.un .not (.t 53)) (.nil)))))))) (.t 54) (.nil)))))))))))
 (.cond (.t 55) (.seq (.ops (.op (some 6) (.mv (.c (.bool false))) (.nil)))
 (.ret)) (.skip)))
 (.seq (.ops (.op (some 56) (.mv (.t 9)) (.op (some 57) (.mv (.t 0)) (.op (some 58) (.len false (.t 57)) (.op (some 59) (.bin .eql (.t 56) (.t 58)) (.op (some 60) (.mv (.t 59)) (.sc 65 true 60 61 64 (.op (some 61) (.mv (.t 10)) (.op (some 62) (.mv (.t 8)) (.op (some 63) (.call 17 [(.t 61), (.t 62)]) (.op (some 64) (.un .not (.t 63)) (.nil))))) (.t 64) (.nil))))))))
 (.cond (.t 65) (.seq (.ops (.op (some 6) (.mv (.c (.bool false))) (.nil)))
 (.ret)) (.skip))))))
 (.ops (.op (some 30) (.mv (.t 9)) (.op (some 31) (.bin .add (.t 30) (.c (.int .i64 1))) (.op (some 9) (.mv (.t 31)) (.nil))))))
def c6_1 : AC := b6_1
@[simp] theorem e6_1 {Γ : Tab} {V : Nat → Bool} {ρ : Type} (k : AX → St → Option ρ) (s : St) : eval Γ c6_1 V ρ k s = eval Γ b6_1 V ρ k s := rfl
def c6 : AF := AF.mk 67 [.t 6] (.seq (.ops (.op (some 6) (.mv (.c (.bool false))) (.nil)))
 (.seq (.ops (.op (some 12) (.call 9 []) (.op (some 7) (.mv (.t 12)) (.nil))))
 (.seq (.seq (.ops (.op (some 13) (.mv (.t 0)) (.op (some 14) (.call 10 [(.t 13)]) (.op (some 15) (.un .not (.t 14)) (.op (some 16) (.mv (.t 15)) (.sc 20 false 16 17 19 (.op (some 17) (.mv (.t 2)) (.op (some 18) (.len false (.t 17)) (.op (some 19) (.bin .gtr (.t 18) (.c (.int .i64 4096))) (.nil)))) (.t 19) (.nil)))))))
 (.cond (.t 20) (.seq (.ops (.op (some 21) (.mv (.t 7)) (.op (some 6) (.mv (.t 21)) (.nil))))
 (.ret)) (.skip)))
 (.seq (.ops (.op (some 22) (.mv (.t 0)) (.op (some 23) (.mv (.t 1)) (.op (some 24) (.mv (.t 2)) (.op (some 25) (.call 18 [(.t 22), (.t 23), (.t 24)]) (.op (some 8) (.mv (.t 25)) (.nil)))))))
 (.seq (.seq (.ops (.op (some 9) (.mv (.c (.int .i64 0))) (.nil)))
 (.block 0 (.loop [9] [(6, 6), (9, 11), (26, 65)] [] [(.exit 0, []), (.ret, [6])] c6_1)))
 (.seq (.ops (.op (some 66) (.mv (.t 7)) (.op (some 6) (.mv (.t 66)) (.nil))))
 (.ret)))))))

theorem ok6 : okF Try.prog 6 c6 = true := by kernel_rfl

/-- catacomb/catacomblaw24.WriteLoses -/
def b7_1 : AC := .seq (.seq (.ops (.op (some 29) (.mv (.t 11)) (.op (some 30) (.mv (.t 0)) (.op (some 31) (.len false (.t 30)) (.op (some 32) (.bin .lss (.t 29) (.t 31)) (.nil))))))
 (.cond (.t 32) (.skip) (.exit 0)))
 (.seq (.block 1 (.ops (.op (some 35) (.mv (.t 10)) (.op (some 36) (.mv (.t 0)) (.op (some 37) (.mv (.t 11)) (.op (some 38) (.iad 3 (.t 36) (.t 37)) (.op (some 39) (.fad 0 (.t 38)) (.op (some 40) (.load 1 false (.t 39)) (.op (some 41) (.mv (.t 0)) (.op (some 42) (.mv (.t 11)) (.op (some 43) (.iad 3 (.t 41) (.t 42)) (.op (some 44) (.fad 1 (.t 43)) (.op (some 45) (.load 1 false (.t 44)) (.op (some 46) (.mv (.t 0)) (.op (some 47) (.mv (.t 11)) (.op (some 48) (.iad 3 (.t 46) (.t 47)) (.op (some 49) (.fad 2 (.t 48)) (.op (some 50) (.load 1 false (.t 49)) (.op (some 51) (.callp 15 [(.t 35), (.t 40), (.t 45), (.t 50)]) (.op (some 10) (.mv (.t 51)) (.nil)))))))))))))))))))))
 (.ops (.op (some 33) (.mv (.t 11)) (.op (some 34) (.bin .add (.t 33) (.c (.int .i64 1))) (.op (some 11) (.mv (.t 34)) (.nil))))))
def c7_1 : AC := b7_1
@[simp] theorem e7_1 {Γ : Tab} {V : Nat → Bool} {ρ : Type} (k : AX → St → Option ρ) (s : St) : eval Γ c7_1 V ρ k s = eval Γ b7_1 V ρ k s := rfl
def b7_2 : AC := .seq (.seq (.ops (.op (some 75) (.mv (.t 15)) (.op (some 76) (.mv (.t 0)) (.op (some 77) (.len false (.t 76)) (.op (some 78) (.bin .lss (.t 75) (.t 77)) (.nil))))))
 (.cond (.t 78) (.skip) (.exit 2)))
 (.seq (.block 3 (.seq (.seq (.ops (.op (some 81) (.mv (.t 0)) (.op (some 82) (.mv (.t 15)) (.op (some 83) (.iad 3 (.t 81) (.t 82)) (.op (some 84) (.fad 0 (.t 83)) (.op (some 85) (.load 1 false (.t 84)) (.op (some 86) (.mv (.t 3)) (.op (some 87) (.bin .neq (.t 85) (.t 86)) (.nil)))))))))
 (.cond (.t 87) (.exit 3) (.skip)))
 (.seq (.ops (.op (some 89) (.mv (.t 14)) (.op (some 90) (.mv (.t 0)) (.op (some 91) (.mv (.t 15)) (.op (some 92) (.iad 3 (.t 90) (.t 91)) (.op (some 93) (.fad 1 (.t 92)) (.op (some 94) (.load 1 false (.t 93)) (.op (some 95) (.mv (.t 0)) (.op (some 96) (.mv (.t 15)) (.op (some 97) (.iad 3 (.t 95) (.t 96)) (.op (some 98) (.fad 2 (.t 97)) (.op (some 99) (.load 1 false (.t 98)) (.op (some 100) (.callp 11 [(.t 89), (.t 94), (.t 99)]) (.op (some 88) (.mv (.t 100)) (.op (some 101) (.ext (.t 88) 0) (.op (some 102) (.ext (.t 88) 1) (.op (some 16) (.mv (.t 101)) (.op (some 17) (.mv (.t 102)) (.nil)))))))))))))))))))
 (.seq (.seq (.ops (.op (some 103) (.mv (.t 17)) (.op (some 104) (.bin .neq (.t 103) (.c (.int .i64 0))) (.nil))))
 (.cond (.t 104) (.seq (.ops (.op (some 8) (.mv (.c (.bool false))) (.nil)))
 (.ret)) (.skip)))
 (.seq (.ops (.op (some 105) (.mv (.t 16)) (.op (some 14) (.mv (.t 105)) (.nil))))
 (.seq (.ops (.op (some 106) (.mv (.t 14)) (.op (some 107) (.mv (.t 12)) (.op (some 108) (.call 17 [(.t 106), (.t 107)]) (.nil)))))
 (.cond (.t 108) (.seq (.ops (.op (some 109) (.mv (.t 9)) (.op (some 8) (.mv (.t 109)) (.nil))))
 (.ret)) (.skip))))))))
 (.ops (.op (some 79) (.mv (.t 15)) (.op (some 80) (.bin .add (.t 79) (.c (.int .i64 1))) (.op (some 15) (.mv (.t 80)) (.nil))))))
def c7_2 : AC := b7_2
@[simp] theorem e7_2 {Γ : Tab} {V : Nat → Bool} {ρ : Type} (k : AX → St → Option ρ) (s : St) : eval Γ c7_2 V ρ k s = eval Γ b7_2 V ρ k s := rfl
def c7 : AF := AF.mk 110 [.t 8] (.seq (.ops (.op (some 8) (.mv (.c (.bool false))) (.nil)))
 (.seq (.ops (.op (some 18) (.call 9 []) (.op (some 9) (.mv (.t 18)) (.nil))))
 (.seq (.seq (.ops (.op (some 19) (.mv (.t 0)) (.op (some 20) (.call 10 [(.t 19)]) (.op (some 21) (.un .not (.t 20)) (.op (some 22) (.mv (.t 21)) (.sc 26 false 22 23 25 (.op (some 23) (.mv (.t 2)) (.op (some 24) (.len false (.t 23)) (.op (some 25) (.bin .gtr (.t 24) (.c (.int .i64 4096))) (.nil)))) (.t 25) (.nil)))))))
 (.cond (.t 26) (.seq (.ops (.op (some 27) (.mv (.t 9)) (.op (some 8) (.mv (.t 27)) (.nil))))
 (.ret)) (.skip)))
 (.seq (.ops (.op (some 28) (.bslh 3 (.agg [.int .i64 0, .int .i64 0, .lst true []]) 0 []) (.op (some 10) (.mv (.t 28)) (.nil))))
 (.seq (.seq (.ops (.op (some 11) (.mv (.c (.int .i64 0))) (.nil)))
 (.block 0 (.loop [10, 11] [(10, 11), (29, 51)] [] [(.exit 0, [10])] c7_1)))
 (.seq (.seq (.ops (.op (some 52) (.mv (.t 10)) (.op (some 53) (.len false (.t 52)) (.op (some 54) (.mv (.t 0)) (.op (some 55) (.len false (.t 54)) (.op (some 56) (.bin .gtr (.t 53) (.t 55)) (.nil)))))))
 (.cond (.t 56) (.seq (.ops (.op (some 8) (.mv (.c (.bool false))) (.nil)))
 (.ret)) (.skip)))
 (.seq (.ops (.op (some 58) (.mv (.t 10)) (.op (some 59) (.mv (.t 3)) (.op (some 60) (.mv (.t 2)) (.op (some 61) (.mv (.t 1)) (.op (some 62) (.conv .i64 (.t 61)) (.op (some 63) (.mv (.t 10)) (.op (some 64) (.len false (.t 63)) (.op (some 65) (.bin .add (.t 64) (.c (.int .i64 1))) (.op (some 66) (.bin .rem (.t 62) (.t 65)) (.op (some 67) (.call 27 [(.t 58), (.t 59), (.t 60), (.t 66)]) (.op (some 57) (.mv (.t 67)) (.op (some 68) (.ext (.t 57) 0) (.op (some 69) (.ext (.t 57) 1) (.op (some 12) (.mv (.t 68)) (.op (some 13) (.mv (.t 69)) (.nil)))))))))))))))))
 (.seq (.ops (.op (some 70) (.mv (.t 2)) (.op (some 14) (.mv (.t 70)) (.nil))))
 (.seq (.seq (.ops (.op (some 71) (.mv (.t 14)) (.op (some 72) (.mv (.t 12)) (.op (some 73) (.call 17 [(.t 71), (.t 72)]) (.nil)))))
 (.cond (.t 73) (.seq (.ops (.op (some 74) (.mv (.t 9)) (.op (some 8) (.mv (.t 74)) (.nil))))
 (.ret)) (.skip)))
 (.seq (.seq (.ops (.op (some 15) (.mv (.c (.int .i64 0))) (.nil)))
 (.block 2 (.loop [14, 15] [(8, 8), (14, 17), (75, 109)] [] [(.exit 2, []), (.ret, [8])] c7_2)))
 (.seq (.ops (.op (some 8) (.mv (.c (.bool false))) (.nil)))
 (.ret))))))))))))

theorem ok7 : okF Try.prog 7 c7 = true := by kernel_rfl

/-- catacomb/catacomblaw24.WriteFences -/
def b8_1 : AC := .seq (.seq (.ops (.op (some 42) (.mv (.t 13)) (.op (some 43) (.mv (.t 2)) (.op (some 44) (.len false (.t 43)) (.op (some 45) (.bin .lss (.t 42) (.t 44)) (.nil))))))
 (.cond (.t 45) (.skip) (.exit 0)))
 (.seq (.block 1 (.seq (.ops (.op (some 48) (.mv (.t 12)) (.op (some 49) (.fad 0 (.t 6)) (.op (some 50) (.load 1 false (.t 49)) (.op (some 51) (.call 28 [(.t 48), (.t 50)]) (.op (some 14) (.alloc [.int .i64 0, .int .i64 0, .lst true []]) (.op none (.store 3 (.t 14) (.t 51)) (.nil))))))))
 (.seq (.ops (.op (some 53) (.mv (.t 12)) (.op (some 54) (.load 3 true (.t 6)) (.op (some 55) (.mv (.t 2)) (.op (some 56) (.mv (.t 13)) (.op (some 57) (.iad 1 (.t 55) (.t 56)) (.op (some 58) (.load 1 false (.t 57)) (.op (some 59) (.conv .i64 (.t 58)) (.op (some 60) (.callp 21 [(.t 53), (.t 54), (.t 59)]) (.op (some 52) (.mv (.t 60)) (.op (some 61) (.ext (.t 52) 0) (.op (some 62) (.ext (.t 52) 1) (.op (some 15) (.mv (.t 61)) (.op (some 16) (.mv (.t 62)) (.nil)))))))))))))))
 (.seq (.ops (.op (some 63) (.mv (.t 15)) (.op (some 64) (.fad 0 (.t 6)) (.op (some 65) (.load 1 false (.t 64)) (.op (some 66) (.call 28 [(.t 63), (.t 65)]) (.op (some 17) (.alloc [.int .i64 0, .int .i64 0, .lst true []]) (.op none (.store 3 (.t 17) (.t 66)) (.nil))))))))
 (.seq (.seq (.ops (.op (some 67) (.fad 1 (.t 17)) (.op (some 68) (.load 1 false (.t 67)) (.op (some 69) (.fad 1 (.t 14)) (.op (some 70) (.load 1 false (.t 69)) (.op (some 71) (.bin .lss (.t 68) (.t 70)) (.op (some 72) (.mv (.t 71)) (.sc 84 false 72 73 83 (.op (some 73) (.mv (.t 16)) (.op (some 74) (.bin .eql (.t 73) (.c (.int .i64 240))) (.op (some 75) (.mv (.t 2)) (.op (some 76) (.mv (.t 13)) (.op (some 77) (.iad 1 (.t 75) (.t 76)) (.op (some 78) (.load 1 false (.t 77)) (.op (some 79) (.conv .i64 (.t 78)) (.op (some 80) (.fad 1 (.t 14)) (.op (some 81) (.load 1 false (.t 80)) (.op (some 82) (.bin .lss (.t 79) (.t 81)) (.op (some 83) (.beq true (.t 74) (.t 82)) (.nil)))))))))))) (.t 83) (.op (some 85) (.mv (.t 84)) (.sc 92 false 85 86 91 (.op (some 86) (.mv (.t 16)) (.op (some 87) (.bin .neq (.t 86) (.c (.int .i64 0))) (.op (some 88) (.mv (.t 87)) (.sc 91 true 88 89 90 (.op (some 89) (.mv (.t 16)) (.op (some 90) (.bin .neq (.t 89) (.c (.int .i64 240))) (.nil))) (.t 90) (.nil))))) (.t 91) (.nil)))))))))))
 (.cond (.t 92) (.seq (.ops (.op (some 10) (.mv (.c (.bool false))) (.nil)))
 (.ret)) (.skip)))
 (.seq (.seq (.ops (.op (some 93) (.mv (.t 16)) (.op (some 94) (.bin .neq (.t 93) (.c (.int .i64 0))) (.op (some 95) (.mv (.t 94)) (.sc 100 true 95 96 99 (.op (some 96) (.mv (.t 15)) (.op (some 97) (.mv (.t 12)) (.op (some 98) (.call 23 [(.t 96), (.t 97)]) (.op (some 99) (.un .not (.t 98)) (.nil))))) (.t 99) (.op (some 101) (.mv (.t 100)) (.sc 114 false 101 102 113 (.op (some 102) (.mv (.t 2)) (.op (some 103) (.mv (.t 13)) (.op (some 104) (.iad 1 (.t 102) (.t 103)) (.op (some 105) (.load 1 false (.t 104)) (.op (some 106) (.conv .i64 (.t 105)) (.op (some 107) (.mv (.t 3)) (.op (some 108) (.conv .i64 (.t 107)) (.op (some 109) (.bin .lss (.t 106) (.t 108)) (.op (some 110) (.mv (.t 109)) (.sc 113 true 110 111 112 (.op (some 111) (.mv (.t 16)) (.op (some 112) (.bin .eql (.t 111) (.c (.int .i64 0))) (.nil))) (.t 112) (.nil))))))))))) (.t 113) (.nil))))))))
 (.cond (.t 114) (.seq (.ops (.op (some 10) (.mv (.c (.bool false))) (.nil)))
 (.ret)) (.skip)))
 (.seq (.seq (.ops (.op (some 115) (.mv (.t 16)) (.op (some 116) (.bin .eql (.t 115) (.c (.int .i64 0))) (.nil))))
 (.cond (.t 116) (.seq (.ops (.op (some 118) (.fad 2 (.t 14)) (.op (some 119) (.load 1 false (.t 118)) (.op (some 120) (.fad 1 (.t 6)) (.op (some 121) (.load 1 false (.t 120)) (.op (some 122) (.fad 2 (.t 6)) (.op (some 123) (.load 1 false (.t 122)) (.op (some 124) (.call 11 [(.t 119), (.t 121), (.t 123)]) (.op (some 117) (.mv (.t 124)) (.op (some 125) (.ext (.t 117) 0) (.op (some 126) (.ext (.t 117) 1) (.op (some 18) (.mv (.t 125)) (.op (some 19) (.mv (.t 126)) (.nil))))))))))))))
 (.seq (.ops (.op (some 127) (.mv (.t 19)) (.op (some 128) (.bin .neq (.t 127) (.c (.int .i64 0))) (.op (some 129) (.mv (.t 128)) (.sc 135 false 129 130 134 (.op (some 130) (.fad 2 (.t 17)) (.op (some 131) (.load 1 false (.t 130)) (.op (some 132) (.mv (.t 18)) (.op (some 133) (.callp 17 [(.t 131), (.t 132)]) (.op (some 134) (.un .not (.t 133)) (.nil)))))) (.t 134) (.op (some 136) (.mv (.t 135)) (.sc 145 false 136 137 144 (.op (some 137) (.fad 1 (.t 17)) (.op (some 138) (.load 1 false (.t 137)) (.op (some 139) (.mv (.t 2)) (.op (some 140) (.mv (.t 13)) (.op (some 141) (.iad 1 (.t 139) (.t 140)) (.op (some 142) (.load 1 false (.t 141)) (.op (some 143) (.conv .i64 (.t 142)) (.op (some 144) (.bin .neq (.t 138) (.t 143)) (.nil))))))))) (.t 144) (.nil))))))))
 (.cond (.t 145) (.seq (.ops (.op (some 10) (.mv (.c (.bool false))) (.nil)))
 (.ret)) (.skip)))) (.skip)))
 (.seq (.seq (.ops (.op (some 146) (.mv (.t 4)) (.op (some 147) (.fad 0 (.t 6)) (.op (some 148) (.load 1 false (.t 147)) (.op (some 149) (.bin .neq (.t 146) (.t 148)) (.op (some 150) (.mv (.t 149)) (.sc 161 true 150 151 160 (.op (some 151) (.mv (.t 15)) (.op (some 152) (.mv (.t 4)) (.op (some 153) (.call 28 [(.t 151), (.t 152)]) (.op (some 154) (.bslh 3 (.agg [.int .i64 0, .int .i64 0, .lst true []]) 1 [(0, (.t 153))]) (.op (some 155) (.mv (.t 0)) (.op (some 156) (.mv (.t 4)) (.op (some 157) (.call 28 [(.t 155), (.t 156)]) (.op (some 158) (.bslh 3 (.agg [.int .i64 0, .int .i64 0, .lst true []]) 1 [(0, (.t 157))]) (.op (some 159) (.call 23 [(.t 154), (.t 158)]) (.op (some 160) (.un .not (.t 159)) (.nil))))))))))) (.t 160) (.nil))))))))
 (.cond (.t 161) (.seq (.ops (.op (some 10) (.mv (.c (.bool false))) (.nil)))
 (.ret)) (.skip)))
 (.ops (.op (some 162) (.mv (.t 15)) (.op (some 12) (.mv (.t 162)) (.nil))))))))))))
 (.ops (.op (some 46) (.mv (.t 13)) (.op (some 47) (.bin .add (.t 46) (.c (.int .i64 1))) (.op (some 13) (.mv (.t 47)) (.nil))))))
def c8_1 : AC := b8_1
@[simp] theorem e8_1 {Γ : Tab} {V : Nat → Bool} {ρ : Type} (k : AX → St → Option ρ) (s : St) : eval Γ c8_1 V ρ k s = eval Γ b8_1 V ρ k s := rfl
def c8 : AF := AF.mk 168 [.t 10] (.seq (.ops (.op (some 6) (.box (.t 1)) (.op (some 10) (.mv (.c (.bool false))) (.nil))))
 (.seq (.ops (.op (some 20) (.call 9 []) (.op (some 11) (.mv (.t 20)) (.nil))))
 (.seq (.seq (.ops (.op (some 21) (.mv (.t 0)) (.op (some 22) (.call 20 [(.t 21)]) (.op (some 23) (.un .not (.t 22)) (.op (some 24) (.mv (.t 23)) (.sc 29 false 24 25 28 (.op (some 25) (.load 3 true (.t 6)) (.op (some 26) (.bslh 3 (.agg [.int .i64 0, .int .i64 0, .lst true []]) 1 [(0, (.t 25))]) (.op (some 27) (.call 10 [(.t 26)]) (.op (some 28) (.un .not (.t 27)) (.nil))))) (.t 28) (.op (some 30) (.mv (.t 29)) (.sc 34 false 30 31 33 (.op (some 31) (.mv (.t 2)) (.op (some 32) (.len false (.t 31)) (.op (some 33) (.bin .gtr (.t 32) (.c (.int .i64 30))) (.nil)))) (.t 33) (.nil)))))))))
 (.cond (.t 34) (.seq (.ops (.op (some 35) (.mv (.t 11)) (.op (some 10) (.mv (.t 35)) (.nil))))
 (.ret)) (.skip)))
 (.seq (.ops (.op (some 36) (.mv (.t 0)) (.op (some 37) (.fad 0 (.t 6)) (.op (some 38) (.load 1 false (.t 37)) (.op (some 39) (.mv (.t 3)) (.op (some 40) (.conv .i64 (.t 39)) (.op (some 41) (.call 24 [(.t 36), (.t 38), (.t 40)]) (.op (some 12) (.mv (.t 41)) (.nil)))))))))
 (.seq (.seq (.ops (.op (some 13) (.mv (.c (.int .i64 0))) (.nil)))
 (.block 0 (.loop [12, 13] [(10, 10), (12, 19), (42, 162)] [] [(.exit 0, [12]), (.ret, [10])] c8_1)))
 (.seq (.ops (.op (some 163) (.mv (.t 11)) (.op (some 164) (.mv (.t 163)) (.sc 167 true 164 165 166 (.op (some 165) (.mv (.t 12)) (.op (some 166) (.call 29 [(.t 165)]) (.nil))) (.t 166) (.op (some 10) (.mv (.t 167)) (.nil))))))
 (.ret)))))))

theorem ok8 : okF Try.prog 8 c8 = true := by kernel_rfl

/-- catacomb/catacomblaw24.head -/
def c9 : AF := AF.mk 163 [.t 0] (.seq (.ops (.op (some 0) (.mv (.c (.bool false))) (.nil)))
 (.seq (.ops (.op (some 26) (.bslh 1 (.int .u8 0) 2 [(0, (.c (.int .u8 1))), (1, (.c (.int .u8 2)))]) (.op (some 27) (.call 15 [(.c (.lst true [])), (.c (.int .i64 5)), (.c (.int .i64 2)), (.t 26)]) (.op (some 1) (.mv (.t 27)) (.nil)))))
 (.seq (.ops (.op (some 28) (.mv (.t 1)) (.op (some 29) (.bslh 1 (.int .u8 0) 2 [(0, (.c (.int .u8 9))), (1, (.c (.int .u8 9)))]) (.op (some 30) (.call 15 [(.t 28), (.c (.int .i64 5)), (.c (.int .i64 3)), (.t 29)]) (.op (some 2) (.mv (.t 30)) (.nil))))))
 (.seq (.ops (.op (some 31) (.mv (.t 2)) (.op (some 32) (.bslh 1 (.int .u8 0) 1 [(0, (.c (.int .u8 7)))]) (.op (some 33) (.call 15 [(.t 31), (.c (.int .i64 5)), (.c (.int .i64 8)), (.t 32)]) (.op (some 3) (.mv (.t 33)) (.nil))))))
 (.seq (.ops (.op (some 34) (.mv (.t 3)) (.op (some 35) (.bslh 1 (.int .u8 0) 1 [(0, (.c (.int .u8 7)))]) (.op (some 36) (.call 15 [(.t 34), (.c (.int .i64 0)), (.c (.int .i64 8)), (.t 35)]) (.op (some 4) (.mv (.t 36)) (.nil))))))
 (.seq (.ops (.op (some 37) (.mv (.t 3)) (.op (some 38) (.bslh 1 (.int .u8 0) 3 [(0, (.c (.int .u8 4))), (1, (.c (.int .u8 4))), (2, (.c (.int .u8 4)))]) (.op (some 39) (.call 18 [(.t 37), (.c (.int .i64 5)), (.t 38)]) (.op (some 5) (.mv (.t 39)) (.nil))))))
 (.seq (.ops (.op (some 41) (.mv (.t 3)) (.op (some 42) (.call 13 [(.t 41)]) (.op (some 40) (.mv (.t 42)) (.op (some 43) (.ext (.t 40) 0) (.op (some 44) (.ext (.t 40) 1) (.op (some 45) (.ext (.t 40) 2) (.op (some 6) (.alloc [.int .i64 0, .int .i64 0, .lst true []]) (.op none (.store 3 (.t 6) (.t 43)) (.op (some 7) (.mv (.t 44)) (.op (some 8) (.mv (.t 45)) (.nil))))))))))))
 (.seq (.ops (.op (some 47) (.call 13 [(.c (.lst true []))]) (.op (some 46) (.mv (.t 47)) (.op (some 48) (.ext (.t 46) 0) (.op (some 49) (.ext (.t 46) 1) (.op (some 50) (.ext (.t 46) 2) (.op (some 9) (.alloc [.int .i64 0, .int .i64 0, .lst true []]) (.op none (.store 3 (.t 9) (.t 48)) (.op (some 10) (.mv (.t 49)) (.op (some 11) (.mv (.t 50)) (.nil)))))))))))
 (.seq (.ops (.op (some 52) (.bslh 1 (.int .u8 0) 2 [(0, (.c (.int .u8 1))), (1, (.c (.int .u8 2)))]) (.op (some 53) (.call 11 [(.c (.lst true [])), (.c (.int .i64 4095)), (.t 52)]) (.op (some 51) (.mv (.t 53)) (.op (some 54) (.ext (.t 51) 0) (.op (some 55) (.ext (.t 51) 1) (.op (some 12) (.mv (.t 54)) (.op (some 13) (.mv (.t 55)) (.nil)))))))))
 (.seq (.ops (.op (some 57) (.call 11 [(.c (.lst true [])), (.c (.int .i64 (-1))), (.c (.lst true []))]) (.op (some 56) (.mv (.t 57)) (.op (some 58) (.ext (.t 56) 0) (.op (some 59) (.ext (.t 56) 1) (.op (some 14) (.mv (.t 58)) (.op (some 15) (.mv (.t 59)) (.nil))))))))
 (.seq (.ops (.op (some 61) (.bslh 1 (.int .u8 0) 1 [(0, (.c (.int .u8 1)))]) (.op (some 62) (.bslh 1 (.int .u8 0) 1 [(0, (.c (.int .u8 2)))]) (.op (some 63) (.call 11 [(.t 61), (.c (.int .i64 3)), (.t 62)]) (.op (some 60) (.mv (.t 63)) (.op (some 64) (.ext (.t 60) 0) (.op (some 65) (.ext (.t 60) 1) (.op (some 16) (.mv (.t 64)) (.op (some 17) (.mv (.t 65)) (.nil))))))))))
 (.seq (.ops (.op (some 67) (.load 3 true (.t 6)) (.op (some 68) (.call 21 [(.c (.lst true [])), (.t 67), (.c (.int .i64 4))]) (.op (some 66) (.mv (.t 68)) (.op (some 69) (.ext (.t 66) 0) (.op (some 70) (.ext (.t 66) 1) (.op (some 18) (.mv (.t 69)) (.op (some 19) (.mv (.t 70)) (.nil)))))))))
 (.seq (.ops (.op (some 72) (.mv (.t 18)) (.op (some 73) (.load 3 true (.t 6)) (.op (some 74) (.call 21 [(.t 72), (.t 73), (.c (.int .i64 3))]) (.op (some 71) (.mv (.t 74)) (.op (some 75) (.ext (.t 71) 0) (.op (some 76) (.ext (.t 71) 1) (.op (some 20) (.mv (.t 75)) (.op (some 21) (.mv (.t 76)) (.nil))))))))))
 (.seq (.ops (.op (some 77) (.mv (.t 18)) (.op (some 78) (.call 24 [(.t 77), (.c (.int .i64 5)), (.c (.int .i64 9))]) (.op (some 22) (.mv (.t 78)) (.nil)))))
 (.seq (.ops (.op (some 80) (.mv (.t 22)) (.op (some 81) (.load 3 true (.t 6)) (.op (some 82) (.call 21 [(.t 80), (.t 81), (.c (.int .i64 8))]) (.op (some 79) (.mv (.t 82)) (.op (some 83) (.ext (.t 79) 0) (.op (some 84) (.ext (.t 79) 1) (.op (some 23) (.mv (.t 83)) (.op (some 24) (.mv (.t 84)) (.nil))))))))))
 (.seq (.ops (.op (some 85) (.mv (.t 3)) (.op (some 86) (.bslh 1 (.int .u8 0) 3 [(0, (.c (.int .u8 1))), (1, (.c (.int .u8 9))), (2, (.c (.int .u8 9)))]) (.op (some 87) (.build [.int .i64 0, .int .i64 0, .lst true []] [(0, 1, (.c (.int .i64 5))), (1, 1, (.c (.int .i64 2))), (2, 1, (.t 86))]) (.op (some 88) (.bslh 1 (.int .u8 0) 1 [(0, (.c (.int .u8 7)))]) (.op (some 89) (.build [.int .i64 0, .int .i64 0, .lst true []] [(0, 1, (.c (.int .i64 5))), (1, 1, (.c (.int .i64 8))), (2, 1, (.t 88))]) (.op (some 90) (.bslh 3 (.agg [.int .i64 0, .int .i64 0, .lst true []]) 2 [(0, (.t 87)), (1, (.t 89))]) (.op (some 91) (.call 14 [(.t 85), (.t 90)]) (.op (some 92) (.mv (.t 91)) (.sc 96 true 92 93 95 (.op (some 93) (.mv (.t 4)) (.op (some 94) (.mv (.t 3)) (.op (some 95) (.call 14 [(.t 93), (.t 94)]) (.nil)))) (.t 95) (.op (some 97) (.mv (.t 96)) (.sc 101 true 97 98 100 (.op (some 98) (.mv (.t 5)) (.op (some 99) (.bslh 1 (.int .u8 0) 9 [(0, (.c (.int .u8 4))), (1, (.c (.int .u8 4))), (2, (.c (.int .u8 1))), (3, (.c (.int .u8 9))), (4, (.c (.int .u8 9))), (5, (.c (.int .u8 0))), (6, (.c (.int .u8 0))), (7, (.c (.int .u8 0))), (8, (.c (.int .u8 7)))]) (.op (some 100) (.call 17 [(.t 98), (.t 99)]) (.nil)))) (.t 100) (.op (some 25) (.mv (.t 101)) (.nil))))))))))))))
 (.seq (.ops (.op (some 102) (.mv (.t 25)) (.op (some 103) (.mv (.t 102)) (.sc 105 true 103 104 104 (.op (some 104) (.mv (.t 8)) (.nil)) (.t 104) (.op (some 106) (.mv (.t 105)) (.sc 109 true 106 107 108 (.op (some 107) (.mv (.t 11)) (.op (some 108) (.un .not (.t 107)) (.nil))) (.t 108) (.op (some 110) (.mv (.t 109)) (.sc 114 true 110 111 113 (.op (some 111) (.mv (.t 7)) (.op (some 112) (.len false (.t 111)) (.op (some 113) (.bin .eql (.t 112) (.c (.int .i64 1))) (.nil)))) (.t 113) (.op (some 115) (.mv (.t 114)) (.sc 118 true 115 116 117 (.op (some 116) (.mv (.t 13)) (.op (some 117) (.bin .eql (.t 116) (.c (.int .i64 2))) (.nil))) (.t 117) (.op (some 119) (.mv (.t 118)) (.sc 122 true 119 120 121 (.op (some 120) (.mv (.t 15)) (.op (some 121) (.bin .eql (.t 120) (.c (.int .i64 1))) (.nil))) (.t 121) (.op (some 123) (.mv (.t 122)) (.sc 126 true 123 124 125 (.op (some 124) (.mv (.t 17)) (.op (some 125) (.bin .eql (.t 124) (.c (.int .i64 0))) (.nil))) (.t 125) (.op (some 127) (.mv (.t 126)) (.sc 131 true 127 128 130 (.op (some 128) (.mv (.t 16)) (.op (some 129) (.bslh 1 (.int .u8 0) 4 [(0, (.c (.int .u8 1))), (1, (.c (.int .u8 0))), (2, (.c (.int .u8 0))), (3, (.c (.int .u8 2)))]) (.op (some 130) (.call 17 [(.t 128), (.t 129)]) (.nil)))) (.t 130) (.op (some 132) (.mv (.t 131)) (.sc 135 true 132 133 134 (.op (some 133) (.mv (.t 19)) (.op (some 134) (.bin .eql (.t 133) (.c (.int .i64 0))) (.nil))) (.t 134) (.op (some 136) (.mv (.t 135)) (.sc 139 true 136 137 138 (.op (some 137) (.mv (.t 21)) (.op (some 138) (.bin .eql (.t 137) (.c (.int .i64 240))) (.nil))) (.t 138) (.op (some 140) (.mv (.t 139)) (.sc 144 true 140 141 143 (.op (some 141) (.mv (.t 20)) (.op (some 142) (.mv (.t 18)) (.op (some 143) (.call 23 [(.t 141), (.t 142)]) (.nil)))) (.t 143) (.op (some 145) (.mv (.t 144)) (.sc 151 true 145 146 150 (.op (some 146) (.mv (.t 18)) (.op (some 147) (.bslh 1 (.int .u8 0) 5 [(0, (.c (.int .u8 0))), (1, (.c (.int .u8 0))), (2, (.c (.int .u8 1))), (3, (.c (.int .u8 9))), (4, (.c (.int .u8 9)))]) (.op (some 148) (.build [.int .i64 0, .int .i64 0, .lst true []] [(0, 1, (.c (.int .i64 5))), (1, 1, (.c (.int .i64 4))), (2, 1, (.t 147))]) (.op (some 149) (.bslh 3 (.agg [.int .i64 0, .int .i64 0, .lst true []]) 1 [(0, (.t 148))]) (.op (some 150) (.call 23 [(.t 146), (.t 149)]) (.nil)))))) (.t 150) (.op (some 152) (.mv (.t 151)) (.sc 155 true 152 153 154 (.op (some 153) (.mv (.t 24)) (.op (some 154) (.bin .eql (.t 153) (.c (.int .i64 240))) (.nil))) (.t 154) (.op (some 156) (.mv (.t 155)) (.sc 162 true 156 157 161 (.op (some 157) (.mv (.t 22)) (.op (some 158) (.bslh 1 (.int .u8 0) 5 [(0, (.c (.int .u8 0))), (1, (.c (.int .u8 0))), (2, (.c (.int .u8 1))), (3, (.c (.int .u8 9))), (4, (.c (.int .u8 9)))]) (.op (some 159) (.build [.int .i64 0, .int .i64 0, .lst true []] [(0, 1, (.c (.int .i64 5))), (1, 1, (.c (.int .i64 9))), (2, 1, (.t 158))]) (.op (some 160) (.bslh 3 (.agg [.int .i64 0, .int .i64 0, .lst true []]) 1 [(0, (.t 159))]) (.op (some 161) (.call 23 [(.t 157), (.t 160)]) (.nil)))))) (.t 161) (.op (some 0) (.mv (.t 162)) (.nil))))))))))))))))))))))))))))))
 (.ret))))))))))))))))))

theorem ok9 : okF Try.prog 9 c9 = true := by kernel_rfl

/-- catacomb/catacomblaw24.fits -/
def b10_1 : AC := .seq (.seq (.ops (.op (some 12) (.mv (.t 3)) (.op (some 13) (.mv (.t 0)) (.op (some 14) (.len false (.t 13)) (.op (some 15) (.bin .lss (.t 12) (.t 14)) (.nil))))))
 (.cond (.t 15) (.skip) (.exit 0)))
 (.seq (.block 1 (.seq (.ops (.op (some 18) (.mv (.t 0)) (.op (some 19) (.mv (.t 3)) (.op (some 20) (.iad 3 (.t 18) (.t 19)) (.op (some 21) (.fad 2 (.t 20)) (.op (some 22) (.load 1 false (.t 21)) (.op (some 23) (.len false (.t 22)) (.op (some 24) (.bin .gtr (.t 23) (.c (.int .i64 300))) (.nil)))))))))
 (.cond (.t 24) (.seq (.ops (.op (some 2) (.mv (.c (.bool false))) (.nil)))
 (.ret)) (.skip))))
 (.ops (.op (some 16) (.mv (.t 3)) (.op (some 17) (.bin .add (.t 16) (.c (.int .i64 1))) (.op (some 3) (.mv (.t 17)) (.nil))))))
def c10_1 : AC := b10_1
@[simp] theorem e10_1 {Γ : Tab} {V : Nat → Bool} {ρ : Type} (k : AX → St → Option ρ) (s : St) : eval Γ c10_1 V ρ k s = eval Γ b10_1 V ρ k s := rfl
def c10 : AF := AF.mk 25 [.t 2] (.seq (.ops (.op (some 2) (.mv (.c (.bool false))) (.nil)))
 (.seq (.seq (.ops (.op (some 4) (.mv (.t 0)) (.op (some 5) (.len false (.t 4)) (.op (some 6) (.bin .gtr (.t 5) (.c (.int .i64 30))) (.op (some 7) (.mv (.t 6)) (.sc 11 false 7 8 10 (.op (some 8) (.mv (.t 0)) (.op (some 9) (.call 26 [(.t 8)]) (.op (some 10) (.un .not (.t 9)) (.nil)))) (.t 10) (.nil)))))))
 (.cond (.t 11) (.seq (.ops (.op (some 2) (.mv (.c (.bool false))) (.nil)))
 (.ret)) (.skip)))
 (.seq (.seq (.ops (.op (some 3) (.mv (.c (.int .i64 0))) (.nil)))
 (.block 0 (.loop [3] [(2, 3), (12, 24)] [] [(.exit 0, []), (.ret, [2])] c10_1)))
 (.seq (.ops (.op (some 2) (.mv (.c (.bool true))) (.nil)))
 (.ret)))))

theorem ok10 : okF Try.prog 10 c10 = true := by kernel_rfl

/-- catacomb/write.Lay -/
def c11 : AF := AF.mk 28 [.t 6, .t 7] (.seq (.ops (.op (some 6) (.mv (.c (.lst true []))) (.op (some 7) (.mv (.c (.int .i64 0))) (.nil))))
 (.seq (.block 0 (.seq (.ops (.op (some 9) (.mv (.t 1)) (.op (some 10) (.bin .lss (.t 9) (.c (.int .i64 0))) (.op (some 8) (.mv (.t 10)) (.nil)))))
 (.cond (.t 8) (.seq (.ops (.op (some 6) (.mv (.c (.lst true []))) (.op (some 7) (.mv (.c (.int .i64 1))) (.nil))))
 (.ret)) (.seq (.ops (.op (some 12) (.mv (.t 2)) (.op (some 13) (.len false (.t 12)) (.op (some 14) (.bin .gtr (.t 13) (.c (.int .i64 0))) (.op (some 15) (.mv (.t 14)) (.sc 21 true 15 16 20 (.op (some 16) (.mv (.t 1)) (.op (some 17) (.mv (.t 2)) (.op (some 18) (.len false (.t 17)) (.op (some 19) (.bin .sub (.c (.int .i64 4096)) (.t 18)) (.op (some 20) (.bin .gtr (.t 16) (.t 19)) (.nil)))))) (.t 20) (.op (some 11) (.mv (.t 21)) (.nil))))))))
 (.cond (.t 11) (.seq (.ops (.op (some 6) (.mv (.c (.lst true []))) (.op (some 7) (.mv (.c (.int .i64 2))) (.nil))))
 (.ret)) (.skip))))))
 (.seq (.ops (.op (some 22) (.mv (.t 0)) (.op (some 23) (.mv (.t 1)) (.op (some 24) (.mv (.t 2)) (.op (some 25) (.build [.int .i64 0, .int .i64 0, .lst true []] [(1, 1, (.t 23)), (2, 1, (.t 24))]) (.op (some 26) (.bslh 3 (.agg [.int .i64 0, .int .i64 0, .lst true []]) 1 [(0, (.t 25))]) (.op (some 27) (.call 30 [(.t 22), (.t 26)]) (.op (some 6) (.mv (.t 27)) (.op (some 7) (.mv (.c (.int .i64 0))) (.nil))))))))))
 (.ret))))

theorem ok11 : okF Try.prog 11 c11 = true := by kernel_rfl

/-- catacomb/catacombref24.Lay -/
def c12 : AF := AF.mk 28 [.t 6, .t 7] (.seq (.ops (.op (some 6) (.mv (.c (.lst true []))) (.op (some 7) (.mv (.c (.int .i64 0))) (.nil))))
 (.seq (.seq (.ops (.op (some 8) (.mv (.t 1)) (.op (some 9) (.bin .lss (.t 8) (.c (.int .i64 0))) (.nil))))
 (.cond (.t 9) (.seq (.ops (.op (some 6) (.mv (.c (.lst true []))) (.op (some 7) (.mv (.c (.int .i64 1))) (.nil))))
 (.ret)) (.skip)))
 (.seq (.seq (.ops (.op (some 10) (.mv (.t 2)) (.op (some 11) (.len false (.t 10)) (.op (some 12) (.bin .gtr (.t 11) (.c (.int .i64 0))) (.op (some 13) (.mv (.t 12)) (.sc 23 true 13 14 22 (.op (some 14) (.mv (.t 1)) (.op (some 15) (.bin .gtr (.t 14) (.c (.int .i64 4096))) (.op (some 16) (.mv (.t 15)) (.sc 22 false 16 17 21 (.op (some 17) (.mv (.t 1)) (.op (some 18) (.mv (.t 2)) (.op (some 19) (.len false (.t 18)) (.op (some 20) (.bin .add (.t 17) (.t 19)) (.op (some 21) (.bin .gtr (.t 20) (.c (.int .i64 4096))) (.nil)))))) (.t 21) (.nil))))) (.t 22) (.nil)))))))
 (.cond (.t 23) (.seq (.ops (.op (some 6) (.mv (.c (.lst true []))) (.op (some 7) (.mv (.c (.int .i64 2))) (.nil))))
 (.ret)) (.skip)))
 (.seq (.ops (.op (some 24) (.mv (.t 0)) (.op (some 25) (.mv (.t 1)) (.op (some 26) (.mv (.t 2)) (.op (some 27) (.call 31 [(.t 24), (.t 25), (.t 26)]) (.op (some 6) (.mv (.t 27)) (.op (some 7) (.mv (.c (.int .i64 0))) (.nil))))))))
 (.ret)))))

theorem ok12 : okF Try.prog 12 c12 = true := by kernel_rfl

/-- catacomb/write.Next -/
def c13 : AF := AF.mk 14 [.cell 2 3 true, .t 3, .t 4] (.seq (.ops (.op (some 2) (.alloc [.int .i64 0, .int .i64 0, .lst true []]) (.op (some 3) (.mv (.c (.lst true []))) (.op (some 4) (.mv (.c (.bool false))) (.nil)))))
 (.seq (.seq (.ops (.op (some 5) (.mv (.t 0)) (.op (some 6) (.len false (.t 5)) (.op (some 7) (.bin .eql (.t 6) (.c (.int .i64 0))) (.nil)))))
 (.cond (.t 7) (.seq (.ops (.op (some 8) (.build [.int .i64 0, .int .i64 0, .lst true []] []) (.op none (.store 3 (.t 2) (.t 8)) (.op (some 3) (.mv (.c (.lst true []))) (.op (some 4) (.mv (.c (.bool false))) (.nil))))))
 (.ret)) (.skip)))
 (.seq (.ops (.op (some 9) (.mv (.t 0)) (.op (some 10) (.iad 3 (.t 9) (.c (.int .i64 0))) (.op (some 11) (.load 3 true (.t 10)) (.op (some 12) (.mv (.t 0)) (.op (some 13) (.sll 3 (.t 12) (some (.c (.int .i64 1))) none none) (.op none (.store 3 (.t 2) (.t 11)) (.op (some 3) (.mv (.t 13)) (.op (some 4) (.mv (.c (.bool true))) (.nil))))))))))
 (.ret))))

theorem ok13 : okF Try.prog 13 c13 = true := by kernel_rfl

/-- catacomb/catacombref24.Same -/
def b14_1 : AC := .seq (.seq (.ops (.op (some 11) (.mv (.t 5)) (.op (some 12) (.mv (.t 0)) (.op (some 13) (.len false (.t 12)) (.op (some 14) (.bin .lss (.t 11) (.t 13)) (.nil))))))
 (.cond (.t 14) (.skip) (.exit 0)))
 (.seq (.block 1 (.seq (.ops (.op (some 17) (.mv (.t 0)) (.op (some 18) (.mv (.t 5)) (.op (some 19) (.iad 3 (.t 17) (.t 18)) (.op (some 20) (.fad 0 (.t 19)) (.op (some 21) (.load 1 false (.t 20)) (.op (some 22) (.mv (.t 1)) (.op (some 23) (.mv (.t 5)) (.op (some 24) (.iad 3 (.t 22) (.t 23)) (.op (some 25) (.fad 0 (.t 24)) (.op (some 26) (.load 1 false (.t 25)) (.op (some 27) (.bin .neq (.t 21) (.t 26)) (.op (some 28) (.mv (.t 27)) (.sc 40 false 28 29 39 (.op (some 29) (.mv (.t 0)) (.op (some 30) (.mv (.t 5)) (.op (some 31) (.iad 3 (.t 29) (.t 30)) (.op (some 32) (.fad 1 (.t 31)) (.op (some 33) (.load 1 false (.t 32)) (.op (some 34) (.mv (.t 1)) (.op (some 35) (.mv (.t 5)) (.op (some 36) (.iad 3 (.t 34) (.t 35)) (.op (some 37) (.fad 1 (.t 36)) (.op (some 38) (.load 1 false (.t 37)) (.op (some 39) (.bin .neq (.t 33) (.t 38)) (.nil)))))))))))) (.t 39) (.op (some 41) (.mv (.t 40)) (.sc 54 false 41 42 53 (.op (some 42) (.mv (.t 0)) (.op (some 43) (.mv (.t 5)) (.op (some 44) (.iad 3 (.t 42) (.t 43)) (.op (some 45) (.fad 2 (.t 44)) (.op (some 46) (.load 1 false (.t 45)) (.op (some 47) (.mv (.t 1)) (.op (some 48) (.mv (.t 5)) (.op (some 49) (.iad 3 (.t 47) (.t 48)) (.op (some 50) (.fad 2 (.t 49)) (.op (some 51) (.load 1 false (.t 50)) (.op (some 52) (.callp 17 [(.t 46), (.t 51)]) (.op (some 53) (.un .not (.t 52)) (.nil))))))))))))) (.t 53) (.nil)))))))))))))))))
 (.cond (.t 54) (.seq (.ops (.op (some 4) (.mv (.c (.bool false))) (.nil)))
 (.ret)) (.skip))))
 (.ops (.op (some 15) (.mv (.t 5)) (.op (some 16) (.bin .add (.t 15) (.c (.int .i64 1))) (.op (some 5) (.mv (.t 16)) (.nil))))))
def c14_1 : AC := b14_1
@[simp] theorem e14_1 {Γ : Tab} {V : Nat → Bool} {ρ : Type} (k : AX → St → Option ρ) (s : St) : eval Γ c14_1 V ρ k s = eval Γ b14_1 V ρ k s := rfl
def c14 : AF := AF.mk 55 [.t 4] (.seq (.ops (.op (some 4) (.mv (.c (.bool false))) (.nil)))
 (.seq (.seq (.ops (.op (some 6) (.mv (.t 0)) (.op (some 7) (.len false (.t 6)) (.op (some 8) (.mv (.t 1)) (.op (some 9) (.len false (.t 8)) (.op (some 10) (.bin .neq (.t 7) (.t 9)) (.nil)))))))
 (.cond (.t 10) (.seq (.ops (.op (some 4) (.mv (.c (.bool false))) (.nil)))
 (.ret)) (.skip)))
 (.seq (.seq (.ops (.op (some 5) (.mv (.c (.int .i64 0))) (.nil)))
 (.block 0 (.loop [5] [(4, 5), (11, 54)] [] [(.exit 0, []), (.ret, [4])] c14_1)))
 (.seq (.ops (.op (some 4) (.mv (.c (.bool true))) (.nil)))
 (.ret)))))

theorem ok14 : okF Try.prog 14 c14 = true := by kernel_rfl

/-- catacomb/write.Put -/
def b15_1 : AC := .seq (.seq (.ops (.op (some 31) (.mv (.t 12)) (.op (some 32) (.bin .geq (.t 31) (.c (.int .i64 0))) (.nil))))
 (.cond (.t 32) (.skip) (.exit 0)))
 (.seq (.block 1 (.seq (.ops (.op (some 35) (.mv (.t 11)) (.op (some 36) (.mv (.t 12)) (.op (some 37) (.iad 3 (.t 35) (.t 36)) (.op (some 38) (.load 3 true (.t 37)) (.op (some 13) (.alloc [.int .i64 0, .int .i64 0, .lst true []]) (.op none (.store 3 (.t 13) (.t 38)) (.nil))))))))
 (.seq (.seq (.ops (.op (some 39) (.mv (.t 10)) (.op (some 40) (.load 3 true (.t 13)) (.op (some 41) (.callv (.t 39) [(.t 40)]) (.op (some 42) (.un .not (.t 41)) (.nil))))))
 (.cond (.t 42) (.exit 1) (.skip)))
 (.seq (.seq (.ops (.op (some 43) (.fad 1 (.t 13)) (.op (some 44) (.load 1 false (.t 43)) (.op (some 45) (.fad 2 (.t 13)) (.op (some 46) (.load 1 false (.t 45)) (.op (some 47) (.len false (.t 46)) (.op (some 48) (.bin .add (.t 44) (.t 47)) (.op (some 49) (.mv (.t 2)) (.op (some 50) (.bin .lss (.t 48) (.t 49)) (.op (some 51) (.mv (.t 50)) (.sc 59 false 51 52 58 (.op (some 52) (.fad 1 (.t 13)) (.op (some 53) (.load 1 false (.t 52)) (.op (some 54) (.mv (.t 2)) (.op (some 55) (.mv (.t 3)) (.op (some 56) (.len false (.t 55)) (.op (some 57) (.bin .add (.t 54) (.t 56)) (.op (some 58) (.bin .gtr (.t 53) (.t 57)) (.nil)))))))) (.t 58) (.nil))))))))))))
 (.cond (.t 59) (.exit 0) (.skip)))
 (.seq (.ops (.op (some 60) (.fad 1 (.t 13)) (.op (some 61) (.load 1 false (.t 60)) (.op (some 62) (.mv (.t 2)) (.op (some 63) (.mm false [(.t 61), (.t 62)]) (.op (some 14) (.mv (.t 63)) (.nil)))))))
 (.seq (.ops (.op (some 64) (.mv (.t 11)) (.op (some 65) (.mv (.t 12)) (.op (some 66) (.mv (.t 1)) (.op (some 67) (.mv (.t 14)) (.op (some 68) (.fad 1 (.t 13)) (.op (some 69) (.load 1 false (.t 68)) (.op (some 70) (.mv (.t 14)) (.op (some 71) (.bin .sub (.t 69) (.t 70)) (.op (some 72) (.fad 2 (.t 13)) (.op (some 73) (.load 1 false (.t 72)) (.op (some 74) (.build [.int .i64 0, .int .i64 0, .lst true []] [(1, 1, (.t 71)), (2, 1, (.t 73))]) (.op (some 75) (.mv (.t 2)) (.op (some 76) (.mv (.t 14)) (.op (some 77) (.bin .sub (.t 75) (.t 76)) (.op (some 78) (.mv (.t 3)) (.op (some 79) (.build [.int .i64 0, .int .i64 0, .lst true []] [(1, 1, (.t 77)), (2, 1, (.t 78))]) (.op (some 80) (.bslh 3 (.agg [.int .i64 0, .int .i64 0, .lst true []]) 2 [(0, (.t 74)), (1, (.t 79))]) (.op (some 81) (.call 30 [(.c (.lst true [])), (.t 80)]) (.op (some 82) (.build [.int .i64 0, .int .i64 0, .lst true []] [(0, 1, (.t 66)), (1, 1, (.t 67)), (2, 1, (.t 81))]) (.op (some 83) (.iad 3 (.t 64) (.t 65)) (.op none (.store 3 (.t 83) (.t 82)) (.nil)))))))))))))))))))))))
 (.seq (.ops (.op (some 84) (.mv (.t 11)) (.op (some 8) (.mv (.t 84)) (.nil))))
 (.ret))))))))
 (.ops (.op (some 33) (.mv (.t 12)) (.op (some 34) (.bin .sub (.t 33) (.c (.int .i64 1))) (.op (some 12) (.mv (.t 34)) (.nil))))))
def c15_1 : AC := b15_1
@[simp] theorem e15_1 {Γ : Tab} {V : Nat → Bool} {ρ : Type} (k : AX → St → Option ρ) (s : St) : eval Γ c15_1 V ρ k s = eval Γ b15_1 V ρ k s := rfl
def c15 : AF := AF.mk 89 [.t 8] (.seq (.ops (.op (some 8) (.mv (.c (.lst true []))) (.nil)))
 (.seq (.ops (.op (some 15) (.mv (.t 1)) (.op (some 16) (.mv (.t 2)) (.op (some 17) (.mv (.t 3)) (.op (some 18) (.call 32 [(.t 17)]) (.op (some 19) (.build [.int .i64 0, .int .i64 0, .lst true []] [(0, 1, (.t 15)), (1, 1, (.t 16)), (2, 1, (.t 18))]) (.op (some 9) (.alloc [.int .i64 0, .int .i64 0, .lst true []]) (.op none (.store 3 (.t 9) (.t 19)) (.nil)))))))))
 (.seq (.seq (.ops (.op (some 20) (.load 3 true (.t 9)) (.op (some 21) (.call 33 [(.t 20)]) (.op (some 22) (.un .not (.t 21)) (.nil)))))
 (.cond (.t 22) (.seq (.ops (.op (some 23) (.mv (.t 0)) (.op (some 8) (.mv (.t 23)) (.nil))))
 (.ret)) (.skip)))
 (.seq (.ops (.op (some 24) (.mv (.t 1)) (.op (some 25) (.mkf (.func 34) [(.t 24)] []) (.op (some 10) (.mv (.t 25)) (.nil)))))
 (.seq (.ops (.op (some 26) (.mv (.t 0)) (.op (some 27) (.call 35 [(.t 26)]) (.op (some 11) (.mv (.t 27)) (.nil)))))
 (.seq (.seq (.ops (.op (some 28) (.mv (.t 11)) (.op (some 29) (.len false (.t 28)) (.op (some 30) (.bin .sub (.t 29) (.c (.int .i64 1))) (.op (some 12) (.mv (.t 30)) (.nil))))))
 (.block 0 (.loop [12] [(8, 8), (12, 14), (31, 84)] [] [(.exit 0, []), (.ret, [8])] c15_1)))
 (.seq (.ops (.op (some 85) (.mv (.t 11)) (.op (some 86) (.load 3 true (.t 9)) (.op (some 87) (.bslh 3 (.agg [.int .i64 0, .int .i64 0, .lst true []]) 1 [(0, (.t 86))]) (.op (some 88) (.app 3 40 (.t 85) (.t 87)) (.op (some 8) (.mv (.t 88)) (.nil)))))))
 (.ret))))))))

theorem ok15 : okF Try.prog 15 c15 = true := by kernel_rfl

/-- catacomb/catacombref24.Put -/
def b16_1 : AC := .seq (.seq (.ops (.op (some 23) (.mv (.t 11)) (.op (some 24) (.mv (.t 0)) (.op (some 25) (.len false (.t 24)) (.op (some 26) (.bin .lss (.t 23) (.t 25)) (.nil))))))
 (.cond (.t 26) (.skip) (.exit 0)))
 (.seq (.block 1 (.seq (.ops (.op (some 29) (.mv (.t 0)) (.op (some 30) (.mv (.t 11)) (.op (some 31) (.iad 3 (.t 29) (.t 30)) (.op (some 32) (.fad 0 (.t 31)) (.op (some 33) (.load 1 false (.t 32)) (.op (some 34) (.mv (.t 1)) (.op (some 35) (.bin .eql (.t 33) (.t 34)) (.nil)))))))))
 (.cond (.t 35) (.ops (.op (some 36) (.mv (.t 11)) (.op (some 10) (.mv (.t 36)) (.nil)))) (.skip))))
 (.ops (.op (some 27) (.mv (.t 11)) (.op (some 28) (.bin .add (.t 27) (.c (.int .i64 1))) (.op (some 11) (.mv (.t 28)) (.nil))))))
def c16_1 : AC := b16_1
@[simp] theorem e16_1 {Γ : Tab} {V : Nat → Bool} {ρ : Type} (k : AX → St → Option ρ) (s : St) : eval Γ c16_1 V ρ k s = eval Γ b16_1 V ρ k s := rfl
def c16 : AF := AF.mk 103 [.t 8] (.seq (.ops (.op (some 8) (.mv (.c (.lst true []))) (.nil)))
 (.seq (.ops (.op (some 15) (.mv (.t 1)) (.op (some 16) (.mv (.t 2)) (.op (some 17) (.mv (.t 3)) (.op (some 18) (.build [.int .i64 0, .int .i64 0, .lst true []] [(0, 1, (.t 15)), (1, 1, (.t 16)), (2, 1, (.t 17))]) (.op (some 9) (.alloc [.int .i64 0, .int .i64 0, .lst true []]) (.op none (.store 3 (.t 9) (.t 18)) (.nil))))))))
 (.seq (.seq (.ops (.op (some 19) (.load 3 true (.t 9)) (.op (some 20) (.call 36 [(.t 19)]) (.op (some 21) (.un .not (.t 20)) (.nil)))))
 (.cond (.t 21) (.seq (.ops (.op (some 22) (.mv (.t 0)) (.op (some 8) (.mv (.t 22)) (.nil))))
 (.ret)) (.skip)))
 (.seq (.ops (.op (some 10) (.mv (.c (.int .i64 (-1)))) (.nil)))
 (.seq (.seq (.ops (.op (some 11) (.mv (.c (.int .i64 0))) (.nil)))
 (.block 0 (.loop [10, 11] [(10, 11), (23, 36)] [] [(.exit 0, [10])] c16_1)))
 (.seq (.ops (.op (some 37) (.bslh 3 (.agg [.int .i64 0, .int .i64 0, .lst true []]) 0 []) (.op (some 38) (.mv (.t 0)) (.op (some 39) (.app 3 40 (.t 37) (.t 38)) (.op (some 12) (.mv (.t 39)) (.nil))))))
 (.seq (.seq (.ops (.op (some 40) (.mv (.t 10)) (.op (some 41) (.bin .lss (.t 40) (.c (.int .i64 0))) (.op (some 42) (.mv (.t 41)) (.sc 57 false 42 43 56 (.op (some 43) (.mv (.t 0)) (.op (some 44) (.mv (.t 10)) (.op (some 45) (.iad 3 (.t 43) (.t 44)) (.op (some 46) (.fad 1 (.t 45)) (.op (some 47) (.load 1 false (.t 46)) (.op (some 48) (.mv (.t 0)) (.op (some 49) (.mv (.t 10)) (.op (some 50) (.iad 3 (.t 48) (.t 49)) (.op (some 51) (.fad 2 (.t 50)) (.op (some 52) (.load 1 false (.t 51)) (.op (some 53) (.len false (.t 52)) (.op (some 54) (.bin .add (.t 47) (.t 53)) (.op (some 55) (.mv (.t 2)) (.op (some 56) (.bin .lss (.t 54) (.t 55)) (.nil))))))))))))))) (.t 56) (.op (some 58) (.mv (.t 57)) (.sc 69 false 58 59 68 (.op (some 59) (.mv (.t 2)) (.op (some 60) (.mv (.t 3)) (.op (some 61) (.len false (.t 60)) (.op (some 62) (.bin .add (.t 59) (.t 61)) (.op (some 63) (.mv (.t 0)) (.op (some 64) (.mv (.t 10)) (.op (some 65) (.iad 3 (.t 63) (.t 64)) (.op (some 66) (.fad 1 (.t 65)) (.op (some 67) (.load 1 false (.t 66)) (.op (some 68) (.bin .lss (.t 62) (.t 67)) (.nil))))))))))) (.t 68) (.nil))))))))
 (.cond (.t 69) (.seq (.ops (.op (some 70) (.mv (.t 12)) (.op (some 71) (.load 3 true (.t 9)) (.op (some 72) (.bslh 3 (.agg [.int .i64 0, .int .i64 0, .lst true []]) 1 [(0, (.t 71))]) (.op (some 73) (.app 3 40 (.t 70) (.t 72)) (.op (some 8) (.mv (.t 73)) (.nil)))))))
 (.ret)) (.skip)))
 (.seq (.ops (.op (some 74) (.mv (.t 0)) (.op (some 75) (.mv (.t 10)) (.op (some 76) (.iad 3 (.t 74) (.t 75)) (.op (some 77) (.load 3 true (.t 76)) (.op (some 13) (.alloc [.int .i64 0, .int .i64 0, .lst true []]) (.op none (.store 3 (.t 13) (.t 77)) (.nil))))))))
 (.seq (.ops (.op (some 78) (.fad 1 (.t 13)) (.op (some 79) (.load 1 false (.t 78)) (.op (some 14) (.mv (.t 79)) (.nil)))))
 (.seq (.seq (.ops (.op (some 80) (.mv (.t 2)) (.op (some 81) (.mv (.t 14)) (.op (some 82) (.bin .lss (.t 80) (.t 81)) (.nil)))))
 (.cond (.t 82) (.ops (.op (some 83) (.mv (.t 2)) (.op (some 14) (.mv (.t 83)) (.nil)))) (.skip)))
 (.seq (.ops (.op (some 84) (.mv (.t 12)) (.op (some 85) (.mv (.t 10)) (.op (some 86) (.mv (.t 1)) (.op (some 87) (.mv (.t 14)) (.op (some 88) (.fad 1 (.t 13)) (.op (some 89) (.load 1 false (.t 88)) (.op (some 90) (.mv (.t 14)) (.op (some 91) (.bin .sub (.t 89) (.t 90)) (.op (some 92) (.fad 2 (.t 13)) (.op (some 93) (.load 1 false (.t 92)) (.op (some 94) (.call 31 [(.c (.lst true [])), (.t 91), (.t 93)]) (.op (some 95) (.mv (.t 2)) (.op (some 96) (.mv (.t 14)) (.op (some 97) (.bin .sub (.t 95) (.t 96)) (.op (some 98) (.mv (.t 3)) (.op (some 99) (.call 31 [(.t 94), (.t 97), (.t 98)]) (.op (some 100) (.build [.int .i64 0, .int .i64 0, .lst true []] [(0, 1, (.t 86)), (1, 1, (.t 87)), (2, 1, (.t 99))]) (.op (some 101) (.iad 3 (.t 84) (.t 85)) (.op none (.store 3 (.t 101) (.t 100)) (.nil)))))))))))))))))))))
 (.seq (.ops (.op (some 102) (.mv (.t 12)) (.op (some 8) (.mv (.t 102)) (.nil))))
 (.ret)))))))))))))

theorem ok16 : okF Try.prog 16 c16 = true := by kernel_rfl

/-- catacomb/catacombref24.Bytes -/
def b17_1 : AC := .seq (.seq (.ops (.op (some 11) (.mv (.t 5)) (.op (some 12) (.mv (.t 0)) (.op (some 13) (.len false (.t 12)) (.op (some 14) (.bin .lss (.t 11) (.t 13)) (.nil))))))
 (.cond (.t 14) (.skip) (.exit 0)))
 (.seq (.block 1 (.seq (.ops (.op (some 17) (.mv (.t 0)) (.op (some 18) (.mv (.t 5)) (.op (some 19) (.iad 1 (.t 17) (.t 18)) (.op (some 20) (.load 1 false (.t 19)) (.op (some 21) (.mv (.t 1)) (.op (some 22) (.mv (.t 5)) (.op (some 23) (.iad 1 (.t 21) (.t 22)) (.op (some 24) (.load 1 false (.t 23)) (.op (some 25) (.bin .neq (.t 20) (.t 24)) (.nil)))))))))))
 (.cond (.t 25) (.seq (.ops (.op (some 4) (.mv (.c (.bool false))) (.nil)))
 (.ret)) (.skip))))
 (.ops (.op (some 15) (.mv (.t 5)) (.op (some 16) (.bin .add (.t 15) (.c (.int .i64 1))) (.op (some 5) (.mv (.t 16)) (.nil))))))
def c17_1 : AC := b17_1
@[simp] theorem e17_1 {Γ : Tab} {V : Nat → Bool} {ρ : Type} (k : AX → St → Option ρ) (s : St) : eval Γ c17_1 V ρ k s = eval Γ b17_1 V ρ k s := rfl
def c17 : AF := AF.mk 26 [.t 4] (.seq (.ops (.op (some 4) (.mv (.c (.bool false))) (.nil)))
 (.seq (.seq (.ops (.op (some 6) (.mv (.t 0)) (.op (some 7) (.len false (.t 6)) (.op (some 8) (.mv (.t 1)) (.op (some 9) (.len false (.t 8)) (.op (some 10) (.bin .neq (.t 7) (.t 9)) (.nil)))))))
 (.cond (.t 10) (.seq (.ops (.op (some 4) (.mv (.c (.bool false))) (.nil)))
 (.ret)) (.skip)))
 (.seq (.seq (.ops (.op (some 5) (.mv (.c (.int .i64 0))) (.nil)))
 (.block 0 (.loop [5] [(4, 5), (11, 25)] [] [(.exit 0, []), (.ret, [4])] c17_1)))
 (.seq (.ops (.op (some 4) (.mv (.c (.bool true))) (.nil)))
 (.ret)))))

theorem ok17 : okF Try.prog 17 c17 = true := by kernel_rfl

/-- catacomb/write.See -/
def b18_1 : AC := .seq (.ops (.op (some 16) (.bin .lss (.t 15) (.t 14)) (.nil)))
 (.seq (.cond (.t 16) (.skip) (.exit 0))
 (.seq (.block 1 (.seq (.ops (.op (some 17) (.iad 3 (.t 13) (.t 15)) (.op (some 18) (.load 3 true (.t 17)) (.op (some 10) (.alloc [.int .i64 0, .int .i64 0, .lst true []]) (.op none (.store 3 (.t 10) (.t 18)) (.nil))))))
 (.seq (.ops (.op (some 19) (.mv (.t 8)) (.op (some 20) (.load 3 true (.t 10)) (.op (some 21) (.callv (.t 19) [(.t 20)]) (.nil)))))
 (.cond (.t 21) (.ops (.op (some 22) (.mv (.t 7)) (.op (some 23) (.load 3 true (.t 10)) (.op (some 24) (.bslh 3 (.agg [.int .i64 0, .int .i64 0, .lst true []]) 1 [(0, (.t 23))]) (.op (some 25) (.app 3 40 (.t 22) (.t 24)) (.op (some 7) (.mv (.t 25)) (.nil))))))) (.skip)))))
 (.ops (.op (some 26) (.bin .add (.t 15) (.c (.int .i64 1))) (.op (some 15) (.mv (.t 26)) (.nil))))))
def c18_1 : AC := b18_1
@[simp] theorem e18_1 {Γ : Tab} {V : Nat → Bool} {ρ : Type} (k : AX → St → Option ρ) (s : St) : eval Γ c18_1 V ρ k s = eval Γ b18_1 V ρ k s := rfl
def c18 : AF := AF.mk 30 [.t 6] (.seq (.ops (.op (some 6) (.mv (.c (.lst true []))) (.nil)))
 (.seq (.ops (.op (some 7) (.mv (.c (.lst true []))) (.nil)))
 (.seq (.ops (.op (some 11) (.mv (.t 1)) (.op (some 12) (.mkf (.func 34) [(.t 11)] []) (.op (some 8) (.mv (.t 12)) (.nil)))))
 (.seq (.seq (.ops (.op (some 13) (.mv (.t 0)) (.op (some 14) (.len false (.t 13)) (.op (some 15) (.mv (.c (.int .i64 0))) (.nil)))))
 (.block 0 (.loop [7, 15] [(7, 7), (10, 10), (15, 26)] [(7, 3)] [(.exit 0, [7])] c18_1)))
 (.seq (.ops (.op (some 27) (.mv (.t 2)) (.op (some 28) (.mv (.t 7)) (.op (some 29) (.call 30 [(.t 27), (.t 28)]) (.op (some 6) (.mv (.t 29)) (.nil))))))
 (.ret))))))

theorem ok18 : okF Try.prog 18 c18 = true := by kernel_rfl

/-- catacomb/catacombref24.See -/
def b19_1 : AC := .seq (.seq (.ops (.op (some 10) (.mv (.t 8)) (.op (some 11) (.mv (.t 0)) (.op (some 12) (.len false (.t 11)) (.op (some 13) (.bin .lss (.t 10) (.t 12)) (.nil))))))
 (.cond (.t 13) (.skip) (.exit 0)))
 (.seq (.block 1 (.seq (.ops (.op (some 16) (.mv (.t 0)) (.op (some 17) (.mv (.t 8)) (.op (some 18) (.iad 3 (.t 16) (.t 17)) (.op (some 19) (.fad 0 (.t 18)) (.op (some 20) (.load 1 false (.t 19)) (.op (some 21) (.mv (.t 1)) (.op (some 22) (.bin .eql (.t 20) (.t 21)) (.nil)))))))))
 (.cond (.t 22) (.ops (.op (some 23) (.mv (.t 7)) (.op (some 24) (.mv (.t 0)) (.op (some 25) (.mv (.t 8)) (.op (some 26) (.iad 3 (.t 24) (.t 25)) (.op (some 27) (.fad 1 (.t 26)) (.op (some 28) (.load 1 false (.t 27)) (.op (some 29) (.mv (.t 0)) (.op (some 30) (.mv (.t 8)) (.op (some 31) (.iad 3 (.t 29) (.t 30)) (.op (some 32) (.fad 2 (.t 31)) (.op (some 33) (.load 1 false (.t 32)) (.op (some 34) (.callp 31 [(.t 23), (.t 28), (.t 33)]) (.op (some 7) (.mv (.t 34)) (.nil))))))))))))))) (.skip))))
 (.ops (.op (some 14) (.mv (.t 8)) (.op (some 15) (.bin .add (.t 14) (.c (.int .i64 1))) (.op (some 8) (.mv (.t 15)) (.nil))))))
def c19_1 : AC := b19_1
@[simp] theorem e19_1 {Γ : Tab} {V : Nat → Bool} {ρ : Type} (k : AX → St → Option ρ) (s : St) : eval Γ c19_1 V ρ k s = eval Γ b19_1 V ρ k s := rfl
def c19 : AF := AF.mk 36 [.t 6] (.seq (.ops (.op (some 6) (.mv (.c (.lst true []))) (.nil)))
 (.seq (.ops (.op (some 9) (.mv (.t 2)) (.op (some 7) (.mv (.t 9)) (.nil))))
 (.seq (.seq (.ops (.op (some 8) (.mv (.c (.int .i64 0))) (.nil)))
 (.block 0 (.loop [7, 8] [(7, 8), (10, 34)] [] [(.exit 0, [7])] c19_1)))
 (.seq (.ops (.op (some 35) (.mv (.t 7)) (.op (some 6) (.mv (.t 35)) (.nil))))
 (.ret)))))

theorem ok19 : okF Try.prog 19 c19 = true := by kernel_rfl

/-- catacomb/catacomblaw24.stored -/
def c20 : AF := AF.mk 10 [.t 2] (.seq (.ops (.op (some 2) (.mv (.c (.bool false))) (.nil)))
 (.seq (.ops (.op (some 3) (.mv (.t 0)) (.op (some 4) (.len false (.t 3)) (.op (some 5) (.bin .leq (.t 4) (.c (.int .i64 30))) (.op (some 6) (.mv (.t 5)) (.sc 9 true 6 7 8 (.op (some 7) (.mv (.t 0)) (.op (some 8) (.call 29 [(.t 7)]) (.nil))) (.t 8) (.op (some 2) (.mv (.t 9)) (.nil))))))))
 (.ret)))

theorem ok20 : okF Try.prog 20 c20 = true := by kernel_rfl

/-- catacomb/write.Take -/
def c21 : AF := AF.mk 43 [.t 6, .t 7] (.seq (.ops (.op (some 4) (.box (.t 1)) (.op (some 6) (.mv (.c (.lst true []))) (.op (some 7) (.mv (.c (.int .i64 0))) (.nil)))))
 (.seq (.ops (.op (some 11) (.mv (.t 0)) (.op (some 12) (.fad 0 (.t 4)) (.op (some 13) (.load 1 false (.t 12)) (.op (some 14) (.call 37 [(.t 11), (.t 13)]) (.op (some 10) (.mv (.t 14)) (.op (some 15) (.ext (.t 10) 0) (.op (some 16) (.ext (.t 10) 1) (.op (some 8) (.mv (.t 15)) (.op (some 9) (.mv (.t 16)) (.nil)))))))))))
 (.seq (.seq (.ops (.op (some 17) (.mv (.t 8)) (.op (some 18) (.mv (.t 9)) (.op (some 19) (.iad 3 (.t 17) (.t 18)) (.op (some 20) (.fad 1 (.t 19)) (.op (some 21) (.load 1 false (.t 20)) (.op (some 22) (.mv (.t 2)) (.op (some 23) (.bin .gtr (.t 21) (.t 22)) (.nil)))))))))
 (.cond (.t 23) (.seq (.ops (.op (some 24) (.mv (.t 0)) (.op (some 6) (.mv (.t 24)) (.op (some 7) (.mv (.c (.int .i64 240))) (.nil)))))
 (.ret)) (.skip)))
 (.seq (.ops (.op (some 25) (.mv (.t 8)) (.op (some 26) (.mv (.t 9)) (.op (some 27) (.mv (.t 2)) (.op (some 28) (.iad 3 (.t 25) (.t 26)) (.op (some 29) (.fad 1 (.t 28)) (.op none (.store 1 (.t 29) (.t 27)) (.nil))))))))
 (.seq (.ops (.op (some 30) (.mv (.t 8)) (.op (some 31) (.mv (.t 9)) (.op (some 32) (.mv (.t 8)) (.op (some 33) (.mv (.t 9)) (.op (some 34) (.iad 3 (.t 32) (.t 33)) (.op (some 35) (.fad 2 (.t 34)) (.op (some 36) (.load 1 false (.t 35)) (.op (some 37) (.load 3 true (.t 4)) (.op (some 38) (.bsl 3 (.agg [.int .i64 0, .int .i64 0, .lst true []]) 1 [(0, (.t 37))]) (.op (some 39) (.callp 30 [(.t 36), (.t 38)]) (.op (some 40) (.iad 3 (.t 30) (.t 31)) (.op (some 41) (.fad 2 (.t 40)) (.op none (.store 1 (.t 41) (.t 39)) (.nil)))))))))))))))
 (.seq (.ops (.op (some 42) (.mv (.t 8)) (.op (some 6) (.mv (.t 42)) (.op (some 7) (.mv (.c (.int .i64 0))) (.nil)))))
 (.ret)))))))

theorem ok21 : okF Try.prog 21 c21 = true := by kernel_rfl

/-- catacomb/catacombref24.Take -/
def c22 : AF := AF.mk 31 [.t 6, .t 7] (.seq (.ops (.op (some 4) (.box (.t 1)) (.op (some 6) (.mv (.c (.lst true []))) (.op (some 7) (.mv (.c (.int .i64 0))) (.nil)))))
 (.seq (.ops (.op (some 9) (.mv (.t 0)) (.op (some 10) (.fad 0 (.t 4)) (.op (some 11) (.load 1 false (.t 10)) (.op (some 12) (.call 28 [(.t 9), (.t 11)]) (.op (some 8) (.alloc [.int .i64 0, .int .i64 0, .lst true []]) (.op none (.store 3 (.t 8) (.t 12)) (.nil))))))))
 (.seq (.seq (.ops (.op (some 13) (.fad 1 (.t 8)) (.op (some 14) (.load 1 false (.t 13)) (.op (some 15) (.mv (.t 2)) (.op (some 16) (.bin .gtr (.t 14) (.t 15)) (.nil))))))
 (.cond (.t 16) (.seq (.ops (.op (some 17) (.mv (.t 0)) (.op (some 6) (.mv (.t 17)) (.op (some 7) (.mv (.c (.int .i64 240))) (.nil)))))
 (.ret)) (.skip)))
 (.seq (.ops (.op (some 18) (.mv (.t 2)) (.op (some 19) (.fad 1 (.t 8)) (.op none (.store 1 (.t 19) (.t 18)) (.nil)))))
 (.seq (.ops (.op (some 20) (.fad 2 (.t 8)) (.op (some 21) (.load 1 false (.t 20)) (.op (some 22) (.fad 1 (.t 4)) (.op (some 23) (.load 1 false (.t 22)) (.op (some 24) (.fad 2 (.t 4)) (.op (some 25) (.load 1 false (.t 24)) (.op (some 26) (.call 31 [(.t 21), (.t 23), (.t 25)]) (.op (some 27) (.fad 2 (.t 8)) (.op none (.store 1 (.t 27) (.t 26)) (.nil)))))))))))
 (.seq (.ops (.op (some 28) (.mv (.t 0)) (.op (some 29) (.load 3 true (.t 8)) (.op (some 30) (.call 38 [(.t 28), (.t 29)]) (.op (some 6) (.mv (.t 30)) (.op (some 7) (.mv (.c (.int .i64 0))) (.nil)))))))
 (.ret)))))))

theorem ok22 : okF Try.prog 22 c22 = true := by kernel_rfl

/-- catacomb/catacombref24.SameStored -/
def b23_1 : AC := .seq (.seq (.ops (.op (some 11) (.mv (.t 5)) (.op (some 12) (.mv (.t 0)) (.op (some 13) (.len false (.t 12)) (.op (some 14) (.bin .lss (.t 11) (.t 13)) (.nil))))))
 (.cond (.t 14) (.skip) (.exit 0)))
 (.seq (.block 1 (.seq (.ops (.op (some 17) (.mv (.t 0)) (.op (some 18) (.mv (.t 5)) (.op (some 19) (.iad 3 (.t 17) (.t 18)) (.op (some 20) (.fad 0 (.t 19)) (.op (some 21) (.load 1 false (.t 20)) (.op (some 22) (.mv (.t 1)) (.op (some 23) (.mv (.t 5)) (.op (some 24) (.iad 3 (.t 22) (.t 23)) (.op (some 25) (.fad 0 (.t 24)) (.op (some 26) (.load 1 false (.t 25)) (.op (some 27) (.bin .neq (.t 21) (.t 26)) (.op (some 28) (.mv (.t 27)) (.sc 40 false 28 29 39 (.op (some 29) (.mv (.t 0)) (.op (some 30) (.mv (.t 5)) (.op (some 31) (.iad 3 (.t 29) (.t 30)) (.op (some 32) (.fad 1 (.t 31)) (.op (some 33) (.load 1 false (.t 32)) (.op (some 34) (.mv (.t 1)) (.op (some 35) (.mv (.t 5)) (.op (some 36) (.iad 3 (.t 34) (.t 35)) (.op (some 37) (.fad 1 (.t 36)) (.op (some 38) (.load 1 false (.t 37)) (.op (some 39) (.bin .neq (.t 33) (.t 38)) (.nil)))))))))))) (.t 39) (.op (some 41) (.mv (.t 40)) (.sc 54 false 41 42 53 (.op (some 42) (.mv (.t 0)) (.op (some 43) (.mv (.t 5)) (.op (some 44) (.iad 3 (.t 42) (.t 43)) (.op (some 45) (.fad 2 (.t 44)) (.op (some 46) (.load 1 false (.t 45)) (.op (some 47) (.mv (.t 1)) (.op (some 48) (.mv (.t 5)) (.op (some 49) (.iad 3 (.t 47) (.t 48)) (.op (some 50) (.fad 2 (.t 49)) (.op (some 51) (.load 1 false (.t 50)) (.op (some 52) (.callp 17 [(.t 46), (.t 51)]) (.op (some 53) (.un .not (.t 52)) (.nil))))))))))))) (.t 53) (.nil)))))))))))))))))
 (.cond (.t 54) (.seq (.ops (.op (some 4) (.mv (.c (.bool false))) (.nil)))
 (.ret)) (.skip))))
 (.ops (.op (some 15) (.mv (.t 5)) (.op (some 16) (.bin .add (.t 15) (.c (.int .i64 1))) (.op (some 5) (.mv (.t 16)) (.nil))))))
def c23_1 : AC := b23_1
@[simp] theorem e23_1 {Γ : Tab} {V : Nat → Bool} {ρ : Type} (k : AX → St → Option ρ) (s : St) : eval Γ c23_1 V ρ k s = eval Γ b23_1 V ρ k s := rfl
def c23 : AF := AF.mk 55 [.t 4] (.seq (.ops (.op (some 4) (.mv (.c (.bool false))) (.nil)))
 (.seq (.seq (.ops (.op (some 6) (.mv (.t 0)) (.op (some 7) (.len false (.t 6)) (.op (some 8) (.mv (.t 1)) (.op (some 9) (.len false (.t 8)) (.op (some 10) (.bin .neq (.t 7) (.t 9)) (.nil)))))))
 (.cond (.t 10) (.seq (.ops (.op (some 4) (.mv (.c (.bool false))) (.nil)))
 (.ret)) (.skip)))
 (.seq (.seq (.ops (.op (some 5) (.mv (.c (.int .i64 0))) (.nil)))
 (.block 0 (.loop [5] [(4, 5), (11, 54)] [] [(.exit 0, []), (.ret, [4])] c23_1)))
 (.seq (.ops (.op (some 4) (.mv (.c (.bool true))) (.nil)))
 (.ret)))))

theorem ok23 : okF Try.prog 23 c23 = true := by kernel_rfl

/-- catacomb/write.Raise -/
def c24 : AF := AF.mk 27 [.t 6] (.seq (.ops (.op (some 6) (.mv (.c (.lst true []))) (.nil)))
 (.seq (.ops (.op (some 10) (.mv (.t 0)) (.op (some 11) (.mv (.t 1)) (.op (some 12) (.call 37 [(.t 10), (.t 11)]) (.op (some 9) (.mv (.t 12)) (.op (some 13) (.ext (.t 9) 0) (.op (some 14) (.ext (.t 9) 1) (.op (some 7) (.mv (.t 13)) (.op (some 8) (.mv (.t 14)) (.nil))))))))))
 (.seq (.ops (.op (some 15) (.mv (.t 7)) (.op (some 16) (.mv (.t 8)) (.op (some 17) (.mv (.t 7)) (.op (some 18) (.mv (.t 8)) (.op (some 19) (.iad 3 (.t 17) (.t 18)) (.op (some 20) (.fad 1 (.t 19)) (.op (some 21) (.load 1 false (.t 20)) (.op (some 22) (.mv (.t 2)) (.op (some 23) (.mm true [(.t 21), (.t 22)]) (.op (some 24) (.iad 3 (.t 15) (.t 16)) (.op (some 25) (.fad 1 (.t 24)) (.op none (.store 1 (.t 25) (.t 23)) (.nil))))))))))))))
 (.seq (.ops (.op (some 26) (.mv (.t 7)) (.op (some 6) (.mv (.t 26)) (.nil))))
 (.ret)))))

theorem ok24 : okF Try.prog 24 c24 = true := by kernel_rfl

/-- catacomb/catacombref24.Raise -/
def c25 : AF := AF.mk 20 [.t 6] (.seq (.ops (.op (some 6) (.mv (.c (.lst true []))) (.nil)))
 (.seq (.ops (.op (some 8) (.mv (.t 0)) (.op (some 9) (.mv (.t 1)) (.op (some 10) (.call 28 [(.t 8), (.t 9)]) (.op (some 7) (.alloc [.int .i64 0, .int .i64 0, .lst true []]) (.op none (.store 3 (.t 7) (.t 10)) (.nil)))))))
 (.seq (.seq (.ops (.op (some 11) (.mv (.t 2)) (.op (some 12) (.fad 1 (.t 7)) (.op (some 13) (.load 1 false (.t 12)) (.op (some 14) (.bin .gtr (.t 11) (.t 13)) (.nil))))))
 (.cond (.t 14) (.ops (.op (some 15) (.mv (.t 2)) (.op (some 16) (.fad 1 (.t 7)) (.op none (.store 1 (.t 16) (.t 15)) (.nil))))) (.skip)))
 (.seq (.ops (.op (some 17) (.mv (.t 0)) (.op (some 18) (.load 3 true (.t 7)) (.op (some 19) (.call 38 [(.t 17), (.t 18)]) (.op (some 6) (.mv (.t 19)) (.nil))))))
 (.ret)))))

theorem ok25 : okF Try.prog 25 c25 = true := by kernel_rfl

/-- catacomb/catacombref24.RightAll -/
def b26_1 : AC := .seq (.seq (.ops (.op (some 4) (.mv (.t 3)) (.op (some 5) (.mv (.t 0)) (.op (some 6) (.len false (.t 5)) (.op (some 7) (.bin .lss (.t 4) (.t 6)) (.nil))))))
 (.cond (.t 7) (.skip) (.exit 0)))
 (.seq (.block 1 (.seq (.ops (.op (some 10) (.mv (.t 0)) (.op (some 11) (.mv (.t 3)) (.op (some 12) (.iad 3 (.t 10) (.t 11)) (.op (some 13) (.load 3 true (.t 12)) (.op (some 14) (.call 36 [(.t 13)]) (.op (some 15) (.un .not (.t 14)) (.nil))))))))
 (.cond (.t 15) (.seq (.ops (.op (some 2) (.mv (.c (.bool false))) (.nil)))
 (.ret)) (.skip))))
 (.ops (.op (some 8) (.mv (.t 3)) (.op (some 9) (.bin .add (.t 8) (.c (.int .i64 1))) (.op (some 3) (.mv (.t 9)) (.nil))))))
def c26_1 : AC := b26_1
@[simp] theorem e26_1 {Γ : Tab} {V : Nat → Bool} {ρ : Type} (k : AX → St → Option ρ) (s : St) : eval Γ c26_1 V ρ k s = eval Γ b26_1 V ρ k s := rfl
def c26 : AF := AF.mk 16 [.t 2] (.seq (.ops (.op (some 2) (.mv (.c (.bool false))) (.nil)))
 (.seq (.seq (.ops (.op (some 3) (.mv (.c (.int .i64 0))) (.nil)))
 (.block 0 (.loop [3] [(2, 15)] [] [(.exit 0, []), (.ret, [2])] c26_1)))
 (.seq (.ops (.op (some 2) (.mv (.c (.bool true))) (.nil)))
 (.ret))))

theorem ok26 : okF Try.prog 26 c26 = true := by kernel_rfl

/-- catacomb/catacomblaw24.back -/
def b27_1 : AC := .seq (.seq (.ops (.op (some 20) (.mv (.t 12)) (.op (some 21) (.mv (.t 3)) (.op (some 22) (.bin .lss (.t 20) (.t 21)) (.nil)))))
 (.cond (.t 22) (.skip) (.exit 0)))
 (.seq (.block 1 (.seq (.ops (.op (some 26) (.mv (.t 11)) (.op (some 27) (.call 13 [(.t 26)]) (.op (some 25) (.mv (.t 27)) (.op (some 28) (.ext (.t 25) 0) (.op (some 29) (.ext (.t 25) 1) (.op (some 30) (.ext (.t 25) 2) (.op (some 13) (.alloc [.int .i64 0, .int .i64 0, .lst true []]) (.op none (.store 3 (.t 13) (.t 28)) (.op (some 14) (.mv (.t 29)) (.op (some 15) (.mv (.t 30)) (.nil))))))))))))
 (.seq (.seq (.ops (.op (some 31) (.mv (.t 15)) (.op (some 32) (.un .not (.t 31)) (.nil))))
 (.cond (.t 32) (.seq (.ops (.op (some 33) (.mv (.t 10)) (.op (some 34) (.mv (.t 11)) (.op (some 8) (.mv (.t 33)) (.op (some 9) (.mv (.t 34)) (.nil))))))
 (.ret)) (.skip)))
 (.seq (.seq (.ops (.op (some 35) (.fad 0 (.t 13)) (.op (some 36) (.load 1 false (.t 35)) (.op (some 37) (.mv (.t 1)) (.op (some 38) (.bin .eql (.t 36) (.t 37)) (.nil))))))
 (.cond (.t 38) (.seq (.ops (.op (some 40) (.mv (.t 10)) (.op (some 41) (.fad 1 (.t 13)) (.op (some 42) (.load 1 false (.t 41)) (.op (some 43) (.fad 2 (.t 13)) (.op (some 44) (.load 1 false (.t 43)) (.op (some 45) (.call 11 [(.t 40), (.t 42), (.t 44)]) (.op (some 39) (.mv (.t 45)) (.op (some 46) (.ext (.t 39) 0) (.op (some 47) (.ext (.t 39) 1) (.op (some 16) (.mv (.t 46)) (.op (some 17) (.mv (.t 47)) (.nil)))))))))))))
 (.ops (.op (some 48) (.mv (.t 16)) (.op (some 10) (.mv (.t 48)) (.nil))))) (.skip)))
 (.ops (.op (some 49) (.mv (.t 14)) (.op (some 11) (.mv (.t 49)) (.nil))))))))
 (.ops (.op (some 23) (.mv (.t 12)) (.op (some 24) (.bin .add (.t 23) (.c (.int .i64 1))) (.op (some 12) (.mv (.t 24)) (.nil))))))
def c27_1 : AC := b27_1
@[simp] theorem e27_1 {Γ : Tab} {V : Nat → Bool} {ρ : Type} (k : AX → St → Option ρ) (s : St) : eval Γ c27_1 V ρ k s = eval Γ b27_1 V ρ k s := rfl
def c27 : AF := AF.mk 52 [.t 8, .t 9] (.seq (.ops (.op (some 8) (.mv (.c (.lst true []))) (.op (some 9) (.mv (.c (.lst true []))) (.nil))))
 (.seq (.ops (.op (some 18) (.mv (.t 2)) (.op (some 10) (.mv (.t 18)) (.nil))))
 (.seq (.ops (.op (some 19) (.mv (.t 0)) (.op (some 11) (.mv (.t 19)) (.nil))))
 (.seq (.seq (.ops (.op (some 12) (.mv (.c (.int .i64 0))) (.nil)))
 (.block 0 (.loop [10, 11, 12] [(8, 17), (20, 49)] [] [(.exit 0, [10, 11]), (.ret, [8, 9])] c27_1)))
 (.seq (.ops (.op (some 50) (.mv (.t 10)) (.op (some 51) (.mv (.t 11)) (.op (some 8) (.mv (.t 50)) (.op (some 9) (.mv (.t 51)) (.nil))))))
 (.ret))))))

theorem ok27 : okF Try.prog 27 c27 = true := by kernel_rfl

/-- catacomb/catacombref24.Find -/
def b28_1 : AC := .seq (.seq (.ops (.op (some 6) (.mv (.t 5)) (.op (some 7) (.mv (.t 0)) (.op (some 8) (.len false (.t 7)) (.op (some 9) (.bin .lss (.t 6) (.t 8)) (.nil))))))
 (.cond (.t 9) (.skip) (.exit 0)))
 (.seq (.block 1 (.seq (.ops (.op (some 12) (.mv (.t 0)) (.op (some 13) (.mv (.t 5)) (.op (some 14) (.iad 3 (.t 12) (.t 13)) (.op (some 15) (.fad 0 (.t 14)) (.op (some 16) (.load 1 false (.t 15)) (.op (some 17) (.mv (.t 1)) (.op (some 18) (.bin .eql (.t 16) (.t 17)) (.nil)))))))))
 (.cond (.t 18) (.seq (.ops (.op (some 19) (.mv (.t 0)) (.op (some 20) (.mv (.t 5)) (.op (some 21) (.iad 3 (.t 19) (.t 20)) (.op (some 22) (.load 3 true (.t 21)) (.op none (.store 3 (.t 4) (.t 22)) (.nil)))))))
 (.ret)) (.skip))))
 (.ops (.op (some 10) (.mv (.t 5)) (.op (some 11) (.bin .add (.t 10) (.c (.int .i64 1))) (.op (some 5) (.mv (.t 11)) (.nil))))))
def c28_1 : AC := b28_1
@[simp] theorem e28_1 {Γ : Tab} {V : Nat → Bool} {ρ : Type} (k : AX → St → Option ρ) (s : St) : eval Γ c28_1 V ρ k s = eval Γ b28_1 V ρ k s := rfl
def c28 : AF := AF.mk 25 [.cell 4 3 true] (.seq (.ops (.op (some 4) (.alloc [.int .i64 0, .int .i64 0, .lst true []]) (.nil)))
 (.seq (.seq (.ops (.op (some 5) (.mv (.c (.int .i64 0))) (.nil)))
 (.block 0 (.loop [5] [(5, 22)] [] [(.exit 0, []), (.ret, [])] c28_1)))
 (.seq (.ops (.op (some 23) (.mv (.t 1)) (.op (some 24) (.build [.int .i64 0, .int .i64 0, .lst true []] [(0, 1, (.t 23))]) (.op none (.store 3 (.t 4) (.t 24)) (.nil)))))
 (.ret))))

theorem ok28 : okF Try.prog 28 c28 = true := by kernel_rfl

/-- catacomb/catacombref24.RightStored -/
def b29_1 : AC := .seq (.seq (.ops (.op (some 4) (.mv (.t 3)) (.op (some 5) (.mv (.t 0)) (.op (some 6) (.len false (.t 5)) (.op (some 7) (.bin .lss (.t 4) (.t 6)) (.nil))))))
 (.cond (.t 7) (.skip) (.exit 0)))
 (.seq (.block 1 (.seq (.ops (.op (some 10) (.mv (.t 0)) (.op (some 11) (.mv (.t 3)) (.op (some 12) (.iad 3 (.t 10) (.t 11)) (.op (some 13) (.fad 0 (.t 12)) (.op (some 14) (.load 1 false (.t 13)) (.op (some 15) (.bin .lss (.t 14) (.c (.int .i64 1))) (.op (some 16) (.mv (.t 15)) (.sc 23 false 16 17 22 (.op (some 17) (.mv (.t 0)) (.op (some 18) (.mv (.t 3)) (.op (some 19) (.iad 3 (.t 17) (.t 18)) (.op (some 20) (.fad 1 (.t 19)) (.op (some 21) (.load 1 false (.t 20)) (.op (some 22) (.bin .lss (.t 21) (.c (.int .i64 0))) (.nil))))))) (.t 22) (.op (some 24) (.mv (.t 23)) (.sc 32 false 24 25 31 (.op (some 25) (.mv (.t 0)) (.op (some 26) (.mv (.t 3)) (.op (some 27) (.iad 3 (.t 25) (.t 26)) (.op (some 28) (.fad 2 (.t 27)) (.op (some 29) (.load 1 false (.t 28)) (.op (some 30) (.len false (.t 29)) (.op (some 31) (.bin .gtr (.t 30) (.c (.int .i64 4096))) (.nil)))))))) (.t 31) (.op (some 33) (.mv (.t 32)) (.sc 50 false 33 34 49 (.op (some 34) (.mv (.t 3)) (.op (some 35) (.bin .gtr (.t 34) (.c (.int .i64 0))) (.op (some 36) (.mv (.t 35)) (.sc 49 true 36 37 48 (.op (some 37) (.mv (.t 0)) (.op (some 38) (.mv (.t 3)) (.op (some 39) (.iad 3 (.t 37) (.t 38)) (.op (some 40) (.fad 0 (.t 39)) (.op (some 41) (.load 1 false (.t 40)) (.op (some 42) (.mv (.t 0)) (.op (some 43) (.mv (.t 3)) (.op (some 44) (.bin .sub (.t 43) (.c (.int .i64 1))) (.op (some 45) (.iad 3 (.t 42) (.t 44)) (.op (some 46) (.fad 0 (.t 45)) (.op (some 47) (.load 1 false (.t 46)) (.op (some 48) (.bin .leq (.t 41) (.t 47)) (.nil))))))))))))) (.t 48) (.nil))))) (.t 49) (.nil))))))))))))))
 (.cond (.t 50) (.seq (.ops (.op (some 2) (.mv (.c (.bool false))) (.nil)))
 (.ret)) (.skip))))
 (.ops (.op (some 8) (.mv (.t 3)) (.op (some 9) (.bin .add (.t 8) (.c (.int .i64 1))) (.op (some 3) (.mv (.t 9)) (.nil))))))
def c29_1 : AC := b29_1
@[simp] theorem e29_1 {Γ : Tab} {V : Nat → Bool} {ρ : Type} (k : AX → St → Option ρ) (s : St) : eval Γ c29_1 V ρ k s = eval Γ b29_1 V ρ k s := rfl
def c29 : AF := AF.mk 51 [.t 2] (.seq (.ops (.op (some 2) (.mv (.c (.bool false))) (.nil)))
 (.seq (.seq (.ops (.op (some 3) (.mv (.c (.int .i64 0))) (.nil)))
 (.block 0 (.loop [3] [(2, 50)] [] [(.exit 0, []), (.ret, [2])] c29_1)))
 (.seq (.ops (.op (some 2) (.mv (.c (.bool true))) (.nil)))
 (.ret))))

theorem ok29 : okF Try.prog 29 c29 = true := by kernel_rfl

/-- catacomb/write.laid -/
def b30_1 : AC := .seq (.ops (.op (some 14) (.bin .lss (.t 13) (.t 12)) (.nil)))
 (.seq (.cond (.t 14) (.skip) (.exit 0))
 (.seq (.block 1 (.seq (.ops (.op (some 15) (.iad 3 (.t 11) (.t 13)) (.op (some 16) (.load 3 true (.t 15)) (.op (some 7) (.alloc [.int .i64 0, .int .i64 0, .lst true []]) (.op none (.store 3 (.t 7) (.t 16)) (.nil))))))
 (.seq (.seq (.ops (.op (some 17) (.fad 1 (.t 7)) (.op (some 18) (.load 1 false (.t 17)) (.op (some 19) (.fad 2 (.t 7)) (.op (some 20) (.load 1 false (.t 19)) (.op (some 21) (.len false (.t 20)) (.op (some 22) (.bin .add (.t 18) (.t 21)) (.op (some 23) (.mv (.t 5)) (.op (some 24) (.len false (.t 23)) (.op (some 25) (.bin .sub (.t 22) (.t 24)) (.op (some 8) (.mv (.t 25)) (.nil))))))))))))
 (.seq (.ops (.op (some 26) (.mv (.t 8)) (.op (some 27) (.bin .gtr (.t 26) (.c (.int .i64 0))) (.op (some 28) (.mv (.t 27)) (.sc 33 true 28 29 32 (.op (some 29) (.fad 2 (.t 7)) (.op (some 30) (.load 1 false (.t 29)) (.op (some 31) (.len false (.t 30)) (.op (some 32) (.bin .gtr (.t 31) (.c (.int .i64 0))) (.nil))))) (.t 32) (.nil))))))
 (.cond (.t 33) (.ops (.op (some 34) (.mv (.t 5)) (.op (some 35) (.mv (.t 8)) (.op (some 36) (.appz 1 1 (.int .u8 0) (.t 34) (.t 35)) (.op (some 5) (.mv (.t 36)) (.nil)))))) (.skip))))
 (.ops (.op (some 37) (.mv (.t 5)) (.op (some 38) (.fad 1 (.t 7)) (.op (some 39) (.load 1 false (.t 38)) (.op (some 40) (.mv (.t 5)) (.op (some 41) (.len false (.t 40)) (.op (some 42) (.mm false [(.t 39), (.t 41)]) (.op (some 43) (.sll 1 (.t 37) (some (.t 42)) none none) (.op (some 44) (.fad 2 (.t 7)) (.op (some 45) (.load 1 false (.t 44)) (.op (some 46) (.copy 1 (.t 43) (.t 45)) (.nil)))))))))))))))
 (.ops (.op (some 47) (.bin .add (.t 13) (.c (.int .i64 1))) (.op (some 13) (.mv (.t 47)) (.nil))))))
def c30_1 : AC := b30_1
@[simp] theorem e30_1 {Γ : Tab} {V : Nat → Bool} {ρ : Type} (k : AX → St → Option ρ) (s : St) : eval Γ c30_1 V ρ k s = eval Γ b30_1 V ρ k s := rfl
def c30 : AF := AF.mk 49 [.t 4] (.seq (.ops (.op (some 4) (.mv (.c (.lst true []))) (.nil)))
 (.seq (.ops (.op (some 9) (.mv (.t 0)) (.op (some 10) (.call 32 [(.t 9)]) (.op (some 5) (.mv (.t 10)) (.nil)))))
 (.seq (.seq (.ops (.op (some 11) (.mv (.t 1)) (.op (some 12) (.len false (.t 11)) (.op (some 13) (.mv (.c (.int .i64 0))) (.nil)))))
 (.block 0 (.loop [5, 13] [(5, 5), (7, 8), (13, 47)] [(5, 1)] [(.exit 0, [5])] c30_1)))
 (.seq (.ops (.op (some 48) (.mv (.t 5)) (.op (some 4) (.mv (.t 48)) (.nil))))
 (.ret)))))

theorem ok30 : okF Try.prog 30 c30 = true := by kernel_rfl

/-- catacomb/catacombref24.Laid -/
def b31_1 : AC := .seq (.seq (.ops (.op (some 18) (.mv (.t 7)) (.op (some 19) (.len false (.t 18)) (.op (some 20) (.mv (.t 1)) (.op (some 21) (.mv (.t 8)) (.op (some 22) (.bin .add (.t 20) (.t 21)) (.op (some 23) (.bin .leq (.t 19) (.t 22)) (.nil))))))))
 (.cond (.t 23) (.skip) (.exit 2)))
 (.block 3 (.ops (.op (some 24) (.mv (.t 7)) (.op (some 25) (.bslh 1 (.int .u8 0) 1 [(0, (.c (.int .u8 0)))]) (.op (some 26) (.app 1 1 (.t 24) (.t 25)) (.op (some 7) (.mv (.t 26)) (.nil)))))))
def c31_1 : AC := b31_1
@[simp] theorem e31_1 {Γ : Tab} {V : Nat → Bool} {ρ : Type} (k : AX → St → Option ρ) (s : St) : eval Γ c31_1 V ρ k s = eval Γ b31_1 V ρ k s := rfl
def b31_2 : AC := .seq (.seq (.ops (.op (some 12) (.mv (.t 8)) (.op (some 13) (.mv (.t 2)) (.op (some 14) (.len false (.t 13)) (.op (some 15) (.bin .lss (.t 12) (.t 14)) (.nil))))))
 (.cond (.t 15) (.skip) (.exit 0)))
 (.seq (.block 1 (.seq (.block 2 (.loop [7] [(7, 7), (18, 26)] [(7, 1)] [(.exit 2, [7])] c31_1))
 (.ops (.op (some 27) (.mv (.t 7)) (.op (some 28) (.mv (.t 1)) (.op (some 29) (.mv (.t 8)) (.op (some 30) (.bin .add (.t 28) (.t 29)) (.op (some 31) (.mv (.t 2)) (.op (some 32) (.mv (.t 8)) (.op (some 33) (.iad 1 (.t 31) (.t 32)) (.op (some 34) (.load 1 false (.t 33)) (.op (some 35) (.iad 1 (.t 27) (.t 30)) (.op none (.store 1 (.t 35) (.t 34)) (.nil))))))))))))))
 (.ops (.op (some 16) (.mv (.t 8)) (.op (some 17) (.bin .add (.t 16) (.c (.int .i64 1))) (.op (some 8) (.mv (.t 17)) (.nil))))))
def c31_2 : AC := b31_2
@[simp] theorem e31_2 {Γ : Tab} {V : Nat → Bool} {ρ : Type} (k : AX → St → Option ρ) (s : St) : eval Γ c31_2 V ρ k s = eval Γ b31_2 V ρ k s := rfl
def c31 : AF := AF.mk 37 [.t 6] (.seq (.ops (.op (some 6) (.mv (.c (.lst true []))) (.nil)))
 (.seq (.ops (.op (some 9) (.bslh 1 (.int .u8 0) 0 []) (.op (some 10) (.mv (.t 0)) (.op (some 11) (.app 1 1 (.t 9) (.t 10)) (.op (some 7) (.mv (.t 11)) (.nil))))))
 (.seq (.seq (.ops (.op (some 8) (.mv (.c (.int .i64 0))) (.nil)))
 (.block 0 (.loop [7, 8] [(7, 8), (12, 35)] [(7, 1)] [(.exit 0, [7])] c31_2)))
 (.seq (.ops (.op (some 36) (.mv (.t 7)) (.op (some 6) (.mv (.t 36)) (.nil))))
 (.ret)))))

theorem ok31 : okF Try.prog 31 c31 = true := by kernel_rfl

/-- slices.Clone[[]byte,byte] -/
def c32 : AF := AF.mk 8 [.t 2] (.seq (.ops (.op (some 2) (.mv (.c (.lst true []))) (.nil)))
 (.seq (.seq (.ops (.op (some 3) (.mv (.t 0)) (.op (some 4) (.isnil .sl false (.t 3)) (.nil))))
 (.cond (.t 4) (.seq (.ops (.op (some 2) (.mv (.c (.lst true []))) (.nil)))
 (.ret)) (.skip)))
 (.seq (.ops (.op (some 5) (.bslh 1 (.int .u8 0) 0 []) (.op (some 6) (.mv (.t 0)) (.op (some 7) (.app 1 1 (.t 5) (.t 6)) (.op (some 2) (.mv (.t 7)) (.nil))))))
 (.ret))))

theorem ok32 : okF Try.prog 32 c32 = true := by kernel_rfl

/-- catacomb/write.right -/
def c33 : AF := AF.mk 26 [.t 2] (.seq (.ops (.op (some 1) (.box (.t 0)) (.op (some 2) (.mv (.c (.bool false))) (.nil))))
 (.seq (.ops (.op (some 3) (.fad 0 (.t 1)) (.op (some 4) (.load 1 false (.t 3)) (.op (some 5) (.bin .geq (.t 4) (.c (.int .i64 1))) (.op (some 6) (.mv (.t 5)) (.sc 10 true 6 7 9 (.op (some 7) (.fad 1 (.t 1)) (.op (some 8) (.load 1 false (.t 7)) (.op (some 9) (.bin .geq (.t 8) (.c (.int .i64 0))) (.nil)))) (.t 9) (.op (some 11) (.mv (.t 10)) (.sc 16 true 11 12 15 (.op (some 12) (.fad 2 (.t 1)) (.op (some 13) (.load 1 false (.t 12)) (.op (some 14) (.len false (.t 13)) (.op (some 15) (.bin .gtr (.t 14) (.c (.int .i64 0))) (.nil))))) (.t 15) (.op (some 17) (.mv (.t 16)) (.sc 25 true 17 18 24 (.op (some 18) (.fad 1 (.t 1)) (.op (some 19) (.load 1 false (.t 18)) (.op (some 20) (.fad 2 (.t 1)) (.op (some 21) (.load 1 false (.t 20)) (.op (some 22) (.len false (.t 21)) (.op (some 23) (.bin .sub (.c (.int .i64 4096)) (.t 22)) (.op (some 24) (.bin .leq (.t 19) (.t 23)) (.nil)))))))) (.t 24) (.op (some 2) (.mv (.t 25)) (.nil))))))))))))
 (.ret)))

theorem ok33 : okF Try.prog 33 c33 = true := by kernel_rfl

/-- (catacomb/write.file).dirty -/
def c34 : AF := AF.mk 9 [.t 4] (.seq (.ops (.op (some 3) (.box (.t 1)) (.op (some 4) (.mv (.c (.bool false))) (.nil))))
 (.seq (.ops (.op (some 5) (.fad 0 (.t 3)) (.op (some 6) (.load 1 false (.t 5)) (.op (some 7) (.mv (.t 0)) (.op (some 8) (.bin .eql (.t 6) (.t 7)) (.op (some 4) (.mv (.t 8)) (.nil)))))))
 (.ret)))

theorem ok34 : okF Try.prog 34 c34 = true := by kernel_rfl

/-- slices.Clone[[]catacomb/api.Dirty,catacomb/api.Dirty] -/
def c35 : AF := AF.mk 8 [.t 2] (.seq (.ops (.op (some 2) (.mv (.c (.lst true []))) (.nil)))
 (.seq (.seq (.ops (.op (some 3) (.mv (.t 0)) (.op (some 4) (.isnil .sl false (.t 3)) (.nil))))
 (.cond (.t 4) (.seq (.ops (.op (some 2) (.mv (.c (.lst true []))) (.nil)))
 (.ret)) (.skip)))
 (.seq (.ops (.op (some 5) (.bslh 3 (.agg [.int .i64 0, .int .i64 0, .lst true []]) 0 []) (.op (some 6) (.mv (.t 0)) (.op (some 7) (.app 3 40 (.t 5) (.t 6)) (.op (some 2) (.mv (.t 7)) (.nil))))))
 (.ret))))

theorem ok35 : okF Try.prog 35 c35 = true := by kernel_rfl

/-- catacomb/catacombref24.Right -/
def c36 : AF := AF.mk 37 [.t 2] (.seq (.ops (.op (some 1) (.box (.t 0)) (.op (some 2) (.mv (.c (.bool false))) (.nil))))
 (.seq (.ops (.op (some 3) (.fad 0 (.t 1)) (.op (some 4) (.load 1 false (.t 3)) (.op (some 5) (.bin .geq (.t 4) (.c (.int .i64 1))) (.op (some 6) (.mv (.t 5)) (.sc 10 true 6 7 9 (.op (some 7) (.fad 1 (.t 1)) (.op (some 8) (.load 1 false (.t 7)) (.op (some 9) (.bin .geq (.t 8) (.c (.int .i64 0))) (.nil)))) (.t 9) (.op (some 11) (.mv (.t 10)) (.sc 15 true 11 12 14 (.op (some 12) (.fad 1 (.t 1)) (.op (some 13) (.load 1 false (.t 12)) (.op (some 14) (.bin .leq (.t 13) (.c (.int .i64 4096))) (.nil)))) (.t 14) (.op (some 16) (.mv (.t 15)) (.sc 21 true 16 17 20 (.op (some 17) (.fad 2 (.t 1)) (.op (some 18) (.load 1 false (.t 17)) (.op (some 19) (.len false (.t 18)) (.op (some 20) (.bin .gtr (.t 19) (.c (.int .i64 0))) (.nil))))) (.t 20) (.op (some 22) (.mv (.t 21)) (.sc 27 true 22 23 26 (.op (some 23) (.fad 2 (.t 1)) (.op (some 24) (.load 1 false (.t 23)) (.op (some 25) (.len false (.t 24)) (.op (some 26) (.bin .leq (.t 25) (.c (.int .i64 4096))) (.nil))))) (.t 26) (.op (some 28) (.mv (.t 27)) (.sc 36 true 28 29 35 (.op (some 29) (.fad 1 (.t 1)) (.op (some 30) (.load 1 false (.t 29)) (.op (some 31) (.fad 2 (.t 1)) (.op (some 32) (.load 1 false (.t 31)) (.op (some 33) (.len false (.t 32)) (.op (some 34) (.bin .add (.t 30) (.t 33)) (.op (some 35) (.bin .leq (.t 34) (.c (.int .i64 4096))) (.nil)))))))) (.t 35) (.op (some 2) (.mv (.t 36)) (.nil))))))))))))))))
 (.ret)))

theorem ok36 : okF Try.prog 36 c36 = true := by kernel_rfl

/-- catacomb/write.place -/
def b37_1 : AC := .seq (.seq (.ops (.op (some 8) (.mv (.t 6)) (.op (some 9) (.mv (.t 0)) (.op (some 10) (.len false (.t 9)) (.op (some 11) (.bin .lss (.t 8) (.t 10)) (.op (some 12) (.mv (.t 11)) (.sc 20 true 12 13 19 (.op (some 13) (.mv (.t 0)) (.op (some 14) (.mv (.t 6)) (.op (some 15) (.iad 3 (.t 13) (.t 14)) (.op (some 16) (.fad 0 (.t 15)) (.op (some 17) (.load 1 false (.t 16)) (.op (some 18) (.mv (.t 1)) (.op (some 19) (.bin .lss (.t 17) (.t 18)) (.nil)))))))) (.t 19) (.nil))))))))
 (.cond (.t 20) (.skip) (.exit 0)))
 (.block 1 (.ops (.op (some 21) (.mv (.t 6)) (.op (some 22) (.bin .add (.t 21) (.c (.int .i64 1))) (.op (some 6) (.mv (.t 22)) (.nil))))))
def c37_1 : AC := b37_1
@[simp] theorem e37_1 {Γ : Tab} {V : Nat → Bool} {ρ : Type} (k : AX → St → Option ρ) (s : St) : eval Γ c37_1 V ρ k s = eval Γ b37_1 V ρ k s := rfl
def c37 : AF := AF.mk 46 [.t 4, .t 5] (.seq (.ops (.op (some 4) (.mv (.c (.lst true []))) (.op (some 5) (.mv (.c (.int .i64 0))) (.nil))))
 (.seq (.ops (.op (some 6) (.mv (.c (.int .i64 0))) (.nil)))
 (.seq (.block 0 (.loop [6] [(6, 6), (8, 22)] [] [(.exit 0, [6])] c37_1))
 (.seq (.ops (.op (some 23) (.mv (.t 0)) (.op (some 24) (.call 39 [(.t 23)]) (.op (some 7) (.mv (.t 24)) (.nil)))))
 (.seq (.seq (.ops (.op (some 25) (.mv (.t 6)) (.op (some 26) (.mv (.t 0)) (.op (some 27) (.len false (.t 26)) (.op (some 28) (.bin .eql (.t 25) (.t 27)) (.op (some 29) (.mv (.t 28)) (.sc 37 false 29 30 36 (.op (some 30) (.mv (.t 0)) (.op (some 31) (.mv (.t 6)) (.op (some 32) (.iad 3 (.t 30) (.t 31)) (.op (some 33) (.fad 0 (.t 32)) (.op (some 34) (.load 1 false (.t 33)) (.op (some 35) (.mv (.t 1)) (.op (some 36) (.bin .neq (.t 34) (.t 35)) (.nil)))))))) (.t 36) (.nil))))))))
 (.cond (.t 37) (.ops (.op (some 38) (.mv (.t 7)) (.op (some 39) (.mv (.t 6)) (.op (some 40) (.mv (.t 1)) (.op (some 41) (.build [.int .i64 0, .int .i64 0, .lst true []] [(0, 1, (.t 40))]) (.op (some 42) (.bslh 3 (.agg [.int .i64 0, .int .i64 0, .lst true []]) 1 [(0, (.t 41))]) (.op (some 43) (.call 40 [(.t 38), (.t 39), (.t 42)]) (.op (some 7) (.mv (.t 43)) (.nil))))))))) (.skip)))
 (.seq (.ops (.op (some 44) (.mv (.t 7)) (.op (some 45) (.mv (.t 6)) (.op (some 4) (.mv (.t 44)) (.op (some 5) (.mv (.t 45)) (.nil))))))
 (.ret)))))))

theorem ok37 : okF Try.prog 37 c37 = true := by kernel_rfl

/-- catacomb/catacombref24.with -/
def b38_1 : AC := .seq (.seq (.ops (.op (some 9) (.mv (.t 7)) (.op (some 10) (.mv (.t 0)) (.op (some 11) (.len false (.t 10)) (.op (some 12) (.bin .lss (.t 9) (.t 11)) (.nil))))))
 (.cond (.t 12) (.skip) (.exit 0)))
 (.seq (.block 1 (.seq (.seq (.ops (.op (some 15) (.mv (.t 6)) (.op (some 16) (.un .not (.t 15)) (.op (some 17) (.mv (.t 16)) (.sc 26 true 17 18 25 (.op (some 18) (.mv (.t 0)) (.op (some 19) (.mv (.t 7)) (.op (some 20) (.iad 3 (.t 18) (.t 19)) (.op (some 21) (.fad 0 (.t 20)) (.op (some 22) (.load 1 false (.t 21)) (.op (some 23) (.fad 0 (.t 3)) (.op (some 24) (.load 1 false (.t 23)) (.op (some 25) (.bin .geq (.t 22) (.t 24)) (.nil))))))))) (.t 25) (.nil))))))
 (.cond (.t 26) (.seq (.ops (.op (some 27) (.mv (.t 5)) (.op (some 28) (.load 3 true (.t 3)) (.op (some 29) (.bslh 3 (.agg [.int .i64 0, .int .i64 0, .lst true []]) 1 [(0, (.t 28))]) (.op (some 30) (.app 3 40 (.t 27) (.t 29)) (.op (some 5) (.mv (.t 30)) (.nil)))))))
 (.ops (.op (some 6) (.mv (.c (.bool true))) (.nil)))) (.skip)))
 (.seq (.ops (.op (some 31) (.mv (.t 0)) (.op (some 32) (.mv (.t 7)) (.op (some 33) (.iad 3 (.t 31) (.t 32)) (.op (some 34) (.fad 0 (.t 33)) (.op (some 35) (.load 1 false (.t 34)) (.op (some 36) (.fad 0 (.t 3)) (.op (some 37) (.load 1 false (.t 36)) (.op (some 38) (.bin .neq (.t 35) (.t 37)) (.nil))))))))))
 (.cond (.t 38) (.ops (.op (some 39) (.mv (.t 5)) (.op (some 40) (.mv (.t 0)) (.op (some 41) (.mv (.t 7)) (.op (some 42) (.iad 3 (.t 40) (.t 41)) (.op (some 43) (.load 3 true (.t 42)) (.op (some 44) (.bslh 3 (.agg [.int .i64 0, .int .i64 0, .lst true []]) 1 [(0, (.t 43))]) (.op (some 45) (.app 3 40 (.t 39) (.t 44)) (.op (some 5) (.mv (.t 45)) (.nil)))))))))) (.skip)))))
 (.ops (.op (some 13) (.mv (.t 7)) (.op (some 14) (.bin .add (.t 13) (.c (.int .i64 1))) (.op (some 7) (.mv (.t 14)) (.nil))))))
def c38_1 : AC := b38_1
@[simp] theorem e38_1 {Γ : Tab} {V : Nat → Bool} {ρ : Type} (k : AX → St → Option ρ) (s : St) : eval Γ c38_1 V ρ k s = eval Γ b38_1 V ρ k s := rfl
def c38 : AF := AF.mk 53 [.t 4] (.seq (.ops (.op (some 3) (.box (.t 1)) (.op (some 4) (.mv (.c (.lst true []))) (.nil))))
 (.seq (.ops (.op (some 8) (.bslh 3 (.agg [.int .i64 0, .int .i64 0, .lst true []]) 0 []) (.op (some 5) (.mv (.t 8)) (.nil))))
 (.seq (.ops (.op (some 6) (.mv (.c (.bool false))) (.nil)))
 (.seq (.seq (.ops (.op (some 7) (.mv (.c (.int .i64 0))) (.nil)))
 (.block 0 (.loop [5, 6, 7] [(5, 7), (9, 45)] [(5, 3)] [(.exit 0, [5, 6])] c38_1)))
 (.seq (.seq (.ops (.op (some 46) (.mv (.t 6)) (.op (some 47) (.un .not (.t 46)) (.nil))))
 (.cond (.t 47) (.ops (.op (some 48) (.mv (.t 5)) (.op (some 49) (.load 3 true (.t 3)) (.op (some 50) (.bslh 3 (.agg [.int .i64 0, .int .i64 0, .lst true []]) 1 [(0, (.t 49))]) (.op (some 51) (.app 3 40 (.t 48) (.t 50)) (.op (some 5) (.mv (.t 51)) (.nil))))))) (.skip)))
 (.seq (.ops (.op (some 52) (.mv (.t 5)) (.op (some 4) (.mv (.t 52)) (.nil))))
 (.ret)))))))

theorem ok38 : okF Try.prog 38 c38 = true := by kernel_rfl

/-- slices.Clone[[]catacomb/api.Stored,catacomb/api.Stored] -/
def c39 : AF := AF.mk 8 [.t 2] (.seq (.ops (.op (some 2) (.mv (.c (.lst true []))) (.nil)))
 (.seq (.seq (.ops (.op (some 3) (.mv (.t 0)) (.op (some 4) (.isnil .sl false (.t 3)) (.nil))))
 (.cond (.t 4) (.seq (.ops (.op (some 2) (.mv (.c (.lst true []))) (.nil)))
 (.ret)) (.skip)))
 (.seq (.ops (.op (some 5) (.bslh 3 (.agg [.int .i64 0, .int .i64 0, .lst true []]) 0 []) (.op (some 6) (.mv (.t 0)) (.op (some 7) (.app 3 40 (.t 5) (.t 6)) (.op (some 2) (.mv (.t 7)) (.nil))))))
 (.ret))))

theorem ok39 : okF Try.prog 39 c39 = true := by kernel_rfl

/-- slices.Insert[[]catacomb/api.Stored,catacomb/api.Stored] -/
def c40 : AF := AF.mk 95 [.t 6] (.seq (.ops (.op (some 6) (.mv (.c (.lst true []))) (.nil)))
 (.seq (.ops (.op (some 10) (.mv (.t 0)) (.op (some 11) (.mv (.t 1)) (.op (some 12) (.sll 3 (.t 10) (some (.t 11)) none none) (.nil)))))
 (.seq (.ops (.op (some 13) (.mv (.t 2)) (.op (some 14) (.len false (.t 13)) (.op (some 7) (.mv (.t 14)) (.nil)))))
 (.seq (.seq (.ops (.op (some 15) (.mv (.t 7)) (.op (some 16) (.bin .eql (.t 15) (.c (.int .i64 0))) (.nil))))
 (.cond (.t 16) (.seq (.ops (.op (some 17) (.mv (.t 0)) (.op (some 6) (.mv (.t 17)) (.nil))))
 (.ret)) (.skip)))
 (.seq (.ops (.op (some 18) (.mv (.t 0)) (.op (some 19) (.len false (.t 18)) (.op (some 8) (.mv (.t 19)) (.nil)))))
 (.seq (.seq (.ops (.op (some 20) (.mv (.t 1)) (.op (some 21) (.mv (.t 8)) (.op (some 22) (.bin .eql (.t 20) (.t 21)) (.nil)))))
 (.cond (.t 22) (.seq (.ops (.op (some 23) (.mv (.t 0)) (.op (some 24) (.mv (.t 2)) (.op (some 25) (.app 3 40 (.t 23) (.t 24)) (.op (some 6) (.mv (.t 25)) (.nil))))))
 (.ret)) (.skip)))
 (.seq (.seq (.ops (.op (some 26) (.mv (.t 8)) (.op (some 27) (.mv (.t 7)) (.op (some 28) (.bin .add (.t 26) (.t 27)) (.op (some 29) (.mv (.t 0)) (.op (some 30) (.no) (.op (some 31) (.bin .gtr (.t 28) (.t 30)) (.nil))))))))
 (.cond (.t 31) (.seq (.ops (.op (some 32) (.mv (.t 0)) (.op (some 33) (.mv (.t 1)) (.op (some 34) (.sll 3 (.t 32) none (some (.t 33)) none) (.op (some 35) (.mv (.t 8)) (.op (some 36) (.mv (.t 7)) (.op (some 37) (.bin .add (.t 35) (.t 36)) (.op (some 38) (.mv (.t 1)) (.op (some 39) (.bin .sub (.t 37) (.t 38)) (.op (some 40) (.appz 3 40 (.agg [.int .i64 0, .int .i64 0, .lst true []]) (.t 34) (.t 39)) (.op (some 9) (.mv (.t 40)) (.nil))))))))))))
 (.seq (.ops (.op (some 41) (.mv (.t 9)) (.op (some 42) (.mv (.t 1)) (.op (some 43) (.sll 3 (.t 41) (some (.t 42)) none none) (.op (some 44) (.mv (.t 2)) (.op (some 45) (.copy 3 (.t 43) (.t 44)) (.nil)))))))
 (.seq (.ops (.op (some 46) (.mv (.t 9)) (.op (some 47) (.mv (.t 1)) (.op (some 48) (.mv (.t 7)) (.op (some 49) (.bin .add (.t 47) (.t 48)) (.op (some 50) (.sll 3 (.t 46) (some (.t 49)) none none) (.op (some 51) (.mv (.t 0)) (.op (some 52) (.mv (.t 1)) (.op (some 53) (.sll 3 (.t 51) (some (.t 52)) none none) (.op (some 54) (.copy 3 (.t 50) (.t 53)) (.nil)))))))))))
 (.seq (.ops (.op (some 55) (.mv (.t 9)) (.op (some 6) (.mv (.t 55)) (.nil))))
 (.ret))))) (.skip)))
 (.seq (.ops (.op (some 56) (.mv (.t 0)) (.op (some 57) (.mv (.t 8)) (.op (some 58) (.mv (.t 7)) (.op (some 59) (.bin .add (.t 57) (.t 58)) (.op (some 60) (.sll 3 (.t 56) none (some (.t 59)) none) (.op (some 0) (.mv (.t 60)) (.nil))))))))
 (.seq (.seq (.ops (.op (some 61) (.mv (.t 2)) (.op (some 62) (.mv (.t 0)) (.op (some 63) (.mv (.t 1)) (.op (some 64) (.mv (.t 7)) (.op (some 65) (.bin .add (.t 63) (.t 64)) (.op (some 66) (.sll 3 (.t 62) (some (.t 65)) none none) (.op (some 67) (.call 41 [(.t 61), (.t 66)]) (.op (some 68) (.un .not (.t 67)) (.nil))))))))))
 (.cond (.t 68) (.seq (.ops (.op (some 69) (.mv (.t 0)) (.op (some 70) (.mv (.t 1)) (.op (some 71) (.mv (.t 7)) (.op (some 72) (.bin .add (.t 70) (.t 71)) (.op (some 73) (.sll 3 (.t 69) (some (.t 72)) none none) (.op (some 74) (.mv (.t 0)) (.op (some 75) (.mv (.t 1)) (.op (some 76) (.sll 3 (.t 74) (some (.t 75)) none none) (.op (some 77) (.copy 3 (.t 73) (.t 76)) (.nil)))))))))))
 (.seq (.ops (.op (some 78) (.mv (.t 0)) (.op (some 79) (.mv (.t 1)) (.op (some 80) (.sll 3 (.t 78) (some (.t 79)) none none) (.op (some 81) (.mv (.t 2)) (.op (some 82) (.copy 3 (.t 80) (.t 81)) (.nil)))))))
 (.seq (.ops (.op (some 83) (.mv (.t 0)) (.op (some 6) (.mv (.t 83)) (.nil))))
 (.ret)))) (.skip)))
 (.seq (.ops (.op (some 84) (.mv (.t 0)) (.op (some 85) (.mv (.t 8)) (.op (some 86) (.sll 3 (.t 84) (some (.t 85)) none none) (.op (some 87) (.mv (.t 2)) (.op (some 88) (.copy 3 (.t 86) (.t 87)) (.nil)))))))
 (.seq (.ops (.op (some 89) (.mv (.t 0)) (.op (some 90) (.mv (.t 1)) (.op (some 91) (.sll 3 (.t 89) (some (.t 90)) none none) (.op (some 92) (.mv (.t 7)) (.op (some 93) (.call 42 [(.t 91), (.t 92)]) (.nil)))))))
 (.seq (.ops (.op (some 94) (.mv (.t 0)) (.op (some 6) (.mv (.t 94)) (.nil))))
 (.ret)))))))))))))

theorem ok40 : okF Try.prog 40 c40 = true := by kernel_rfl

/-- slices.rotateRight[catacomb/api.Stored] -/
def c42 : AF := AF.mk 10 [] (.ops (.op (some 4) (.mv (.t 0)) (.op (some 5) (.mv (.t 0)) (.op (some 6) (.len false (.t 5)) (.op (some 7) (.mv (.t 1)) (.op (some 8) (.bin .sub (.t 6) (.t 7)) (.op (some 9) (.call 43 [(.t 4), (.t 8)]) (.nil))))))))

theorem ok42 : okF Try.prog 42 c42 = true := by kernel_rfl

/-- slices.rotateLeft[catacomb/api.Stored] -/
def c43 : AF := AF.mk 14 [] (.seq (.ops (.op (some 4) (.mv (.t 0)) (.op (some 5) (.mv (.t 1)) (.op (some 6) (.sll 3 (.t 4) none (some (.t 5)) none) (.op (some 7) (.call 44 [(.t 6)]) (.nil))))))
 (.seq (.ops (.op (some 8) (.mv (.t 0)) (.op (some 9) (.mv (.t 1)) (.op (some 10) (.sll 3 (.t 8) (some (.t 9)) none none) (.op (some 11) (.call 44 [(.t 10)]) (.nil))))))
 (.ops (.op (some 12) (.mv (.t 0)) (.op (some 13) (.call 44 [(.t 12)]) (.nil))))))

theorem ok43 : okF Try.prog 43 c43 = true := by kernel_rfl

/-- slices.Reverse[[]catacomb/api.Stored,catacomb/api.Stored] -/
def b44_1 : AC := .seq (.seq (.ops (.op (some 7) (.mv (.t 2)) (.op (some 8) (.mv (.t 3)) (.op (some 9) (.bin .lss (.t 7) (.t 8)) (.nil)))))
 (.cond (.t 9) (.skip) (.exit 0)))
 (.seq (.block 1 (.ops (.op (some 14) (.mv (.t 0)) (.op (some 15) (.mv (.t 2)) (.op (some 16) (.mv (.t 0)) (.op (some 17) (.mv (.t 3)) (.op (some 18) (.mv (.t 0)) (.op (some 19) (.mv (.t 3)) (.op (some 20) (.iad 3 (.t 18) (.t 19)) (.op (some 21) (.load 3 true (.t 20)) (.op (some 22) (.mv (.t 0)) (.op (some 23) (.mv (.t 2)) (.op (some 24) (.iad 3 (.t 22) (.t 23)) (.op (some 25) (.load 3 true (.t 24)) (.op (some 26) (.iad 3 (.t 14) (.t 15)) (.op none (.store 3 (.t 26) (.t 21)) (.op (some 27) (.iad 3 (.t 16) (.t 17)) (.op none (.store 3 (.t 27) (.t 25)) (.nil)))))))))))))))))))
 (.ops (.op (some 10) (.mv (.t 2)) (.op (some 11) (.bin .add (.t 10) (.c (.int .i64 1))) (.op (some 12) (.mv (.t 3)) (.op (some 13) (.bin .sub (.t 12) (.c (.int .i64 1))) (.op (some 2) (.mv (.t 11)) (.op (some 3) (.mv (.t 13)) (.nil)))))))))
def c44_1 : AC := b44_1
@[simp] theorem e44_1 {Γ : Tab} {V : Nat → Bool} {ρ : Type} (k : AX → St → Option ρ) (s : St) : eval Γ c44_1 V ρ k s = eval Γ b44_1 V ρ k s := rfl
def c44 : AF := AF.mk 28 [] (.seq (.ops (.op (some 4) (.mv (.t 0)) (.op (some 5) (.len false (.t 4)) (.op (some 6) (.bin .sub (.t 5) (.c (.int .i64 1))) (.op (some 2) (.mv (.c (.int .i64 0))) (.op (some 3) (.mv (.t 6)) (.nil)))))))
 (.block 0 (.loop [2, 3] [(2, 3), (7, 27)] [] [(.exit 0, [])] c44_1)))

theorem ok44 : okF Try.prog 44 c44 = true := by kernel_rfl

end Go.Proofs.Ytldgegojhaamoaa
