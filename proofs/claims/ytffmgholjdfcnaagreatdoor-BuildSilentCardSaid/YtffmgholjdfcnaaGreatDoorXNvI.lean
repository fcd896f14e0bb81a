/- Texts of this session, joined. -/
import Derived.Test.YtffmgholjdfcnaaGreatDoorXNuU
import Derived.Test.YtffmgholjdfcnaaGreatDoorXNvC
import Derived.Test.YtffmgholjdfcnaaGreatDoorXNvH
set_option linter.unusedVariables false
namespace Go.Proofs.YtffmgholjdfcnaaGreatDoor
open Go AM St Nu
theorem t112 : FnIs Tryz.prog G ng 112 (adp112 A112) := as112 stays is171' is172' fun a0 a1 K r h => eq112 a0 a1 K r h
theorem t166 : FnIs Tryz.prog G ng 166 (adp166 A166) := as166 stays is155' fun q_s q_bad a1 K r h => by rw [eq166 cut0_eq]; exact h
theorem t170 : FnIs Tryz.prog G ng 170 (adp170 A170) := as170 stays  fun a0 a1 K r h => by rw [eq170 cut0_eq]; exact h
theorem t213 : FnIs Tryz.prog G ng 213 (adp213 A213) := as213 stays  fun a0 a1 K r h => eq213 cut0_eq a0 a1 K r h
theorem t43 : FnIs Tryz.prog G ng 43 (adp43 A43) := as43 stays is68' fun a0 K r h => eq43 a0 K r h
theorem t125 : FnIs Tryz.prog G ng 125 (adp125 A125) := as125 stays  fun a0 a1 K r h => by rw [eq125 cut0_eq]; exact h
theorem t126 : FnIs Tryz.prog G ng 126 (adp126 A126) := as126 stays  fun a0 a1 a2 K r h => eq126 cut0_eq a0 a1 a2 K r h
theorem t92 : FnIs Tryz.prog G ng 92 (adp92 A92) := as92 stays  fun a0 K r h => by rw [eq92]; exact h
theorem t20 : FnIs Tryz.prog G ng 20 (adp20 A20) := as20 stays  fun a0 K r h => eq20 cut0_eq a0 K r h
theorem t40 : FnIs Tryz.prog G ng 40 (adp40 A40) := as40 stays  fun a0 a1 K r h => by rw [eq40 cut0_eq]; exact h
theorem t42 : FnIs Tryz.prog G ng 42 (adp42 A42) := as42 stays  fun a0 K r h => by rw [eq42 cut0_eq]; exact h
theorem t93 : FnIs Tryz.prog G ng 93 (adp93 A93) := as93 stays  fun a0 K r h => by rw [eq93 cut0_eq]; exact h
theorem t97 : FnIs Tryz.prog G ng 97 (adp97 A97) := as97 stays  fun a0 a1 K r h => by rw [eq97 cut0_eq]; exact h
theorem t98 : FnIs Tryz.prog G ng 98 (adp98 A98) := as98 stays is148' fun a0 K r h => eq98 a0 K r h
theorem t145 : FnIs Tryz.prog G ng 145 (adp145 A145) := as145 stays  fun a0 K r h => eq145 cut0_eq a0 K r h
theorem t147 : FnIs Tryz.prog G ng 147 (adp147 A147) := as147 stays  fun a0 K r h => eq147 cut0_eq a0 K r h
theorem t158 : FnIs Tryz.prog G ng 158 (adp158 A158) := as158 stays  fun a0 K r h => by rw [eq158]; exact h
theorem t202 : FnIs Tryz.prog G ng 202 (adp202 A202) := as202 stays is230' fun a0 K r h => by rw [eq202]; exact h
theorem t206 : FnIs Tryz.prog G ng 206 (adp206 A206) := as206 stays is232' fun a0 a1 K r h => by rw [eq206]; exact h
theorem t207 : FnIs Tryz.prog G ng 207 (adp207 A207) := as207 stays  fun a0 a1 K r h => eq207 cut0_eq a0 a1 K r h
theorem t149 : FnIs Tryz.prog G ng 149 (adp149 A149) := as149 stays is163' fun a0 K r h => eq149 a0 K r h
theorem t101 : FnIs Tryz.prog G ng 101 (adp101 A101) := as101 stays  fun a0 K r h => by rw [eq101 cut0_eq]; exact h
theorem t105 : FnIs Tryz.prog G ng 105 (adp105 A105) := as105 stays  fun a0 K r h => eq105 cut0_eq a0 K r h
theorem t154 : FnIs Tryz.prog G ng 154 (adp154 A154) := as154 stays is94' fun a0 K r h => by rw [eq154]; exact h
theorem t107 : FnIs Tryz.prog G ng 107 (adp107 A107) := as107 stays is102' fun a0 K r h => eq107 a0 K r h
theorem t159 : FnIs Tryz.prog G ng 159 (adp159 A159) := as159 stays  fun a0 a1 K r h => by rw [eq159 cut0_eq]; exact h
theorem t160 : FnIs Tryz.prog G ng 160 (adp160 A160) := as160 stays  fun a0 K r h => by rw [eq160]; exact h
theorem t161 : FnIs Tryz.prog G ng 161 (adp161 A161) := as161 stays t160 fun a0 K r h => eq161 cut0_eq a0 K r h
theorem t162 : FnIs Tryz.prog G ng 162 (adp162 A162) := as162 stays t160 fun a0 K r h => by rw [eq162 cut0_eq]; exact h
theorem t70 : FnIs Tryz.prog G ng 70 (adp70 A70) := as70 stays  fun a0 K r h => by rw [eq70]; exact h
theorem t114 : FnIs Tryz.prog G ng 114 (adp114 A114) := as114 stays  fun a0 K r h => by rw [eq114 cut0_eq]; exact h
theorem t118 : FnIs Tryz.prog G ng 118 (adp118 A118) := as118 stays  fun a0 a1 a2 K r h => by rw [eq118 cut0_eq]; exact h
theorem t122 : FnIs Tryz.prog G ng 122 (adp122 A122) := as122 stays  fun a0 a1 K r h => eq122 cut0_eq a0 a1 K r h
theorem t90 : FnIs Tryz.prog G ng 90 (adp90 A90) := as90 stays  fun a0 K r h => eq90 cut0_eq a0 K r h
theorem t174 : FnIs Tryz.prog G ng 174 (adp174 A174) := as174 stays t92 fun a0 K r h => eq174 cut0_eq a0 K r h
theorem t176 : FnIs Tryz.prog G ng 176 (adp176 A176) := as176 stays t174 fun a0 K r h => eq176 cut0_eq a0 K r h
theorem t217 : FnIs Tryz.prog G ng 217 (adp217 A217) := as217 stays  fun a0 a1 K r h => by rw [eq217]; exact h
theorem t19 : FnIs Tryz.prog G ng 19 (adp19 A19) := as19 stays  fun a0 K r h => by rw [eq19]; exact h
theorem t23 : FnIs Tryz.prog G ng 23 (adp23 A23) := as23 stays  fun a0 K r h => eq23 a0 K r h
theorem t24 : FnIs Tryz.prog G ng 24 (adp24 A24) := as24 stays  fun a0 K r h => eq24 cut0_eq a0 K r h
theorem t27 : FnIs Tryz.prog G ng 27 (adp27 A27) := as27 stays  fun a0 K r h => by rw [eq27 cut0_eq]; exact h
theorem t183 : FnIs Tryz.prog G ng 183 (adp183 A183) := as183 stays  fun a0 K r h => by rw [eq183]; exact h
theorem t186 : FnIs Tryz.prog G ng 186 (adp186 A186) := as186 stays  fun  K r h => by rw [eq186]; exact h
theorem t153 : FnIs Tryz.prog G ng 153 (adp153 A153) := as153 stays fun a0 K r h => by rw [run153_eq]; exact h
theorem t111 : FnIs Tryz.prog G ng 111 (adp111 A111) := as111 stays t170 fun a0_year a0_month a0_day a0_hour a0_minute a0_second a0_frac a0_zone K r h => by rw [eq111 cut0_eq]; exact h
theorem t164 : FnIs Tryz.prog G ng 164 (adp164 A164) := as164 stays t166 fun q_s q_bad a1 a2 K r h => eq164 cut0_eq q_s q_bad a1 a2 K r h
theorem t165 : FnIs Tryz.prog G ng 165 (adp165 A165) := as165 stays t166 fun q_s q_bad a1 K r h => eq165 cut0_eq q_s q_bad a1 K r h
theorem t167 : FnIs Tryz.prog G ng 167 (adp167 A167) := as167 stays t213 fun q_s q_bad a1 K r h => eq167 q_s q_bad a1 K r h
theorem t168 : FnIs Tryz.prog G ng 168 (adp168 A168) := as168 stays t164 t166 fun q_s q_bad K r h => eq168 cut0_eq q_s q_bad K r h
theorem t169 : FnIs Tryz.prog G ng 169 (adp169 A169) := as169 stays t170 fun a0_year a0_month a0_day a0_hour a0_minute a0_second a0_frac a0_zone K r h => by rw [eq169]; exact h
theorem t123 : FnIs Tryz.prog G ng 123 (adp123 A123) := as123 stays t92 fun a0 a1 a2 a3 K r h => eq123 cut0_eq a0 a1 a2 a3 K r h
theorem t124 : FnIs Tryz.prog G ng 124 (adp124 A124) := as124 stays t123 t126 fun a0 a1 a2 a3 a4 K r h => eq124 a0 a1 a2 a3 a4 K r h
theorem t178 : FnIs Tryz.prog G ng 178 (adp178 A178) := as178 stays t124 fun a0 a1 K r h => eq178 cut0_eq a0 a1 K r h
theorem t180 : FnIs Tryz.prog G ng 180 (adp180 A180) := as180 stays t20 fun a0 K r h => eq180 a0 K r h
theorem t219 : FnIs Tryz.prog G ng 219 (adp219 A219) := as219 stays t180 fun a0 a1 a2 K r h => eq219 a0 a1 a2 K r h
theorem t96 : FnIs Tryz.prog G ng 96 (adp96 A96) := as96 stays t43 t147 is148' fun a0 a1 K r h => eq96 a0 a1 K r h
theorem t150 : FnIs Tryz.prog G ng 150 (adp150 A150) := as150 stays t147 t202 fun a0 K r h => eq150 a0 K r h
theorem t146 : FnIs Tryz.prog G ng 146 (adp146 A146) := as146 stays t96 o197 fun a0 a1 a2 K r h => eq146 cut0_eq a0 a1 a2 K r h
theorem t109 : FnIs Tryz.prog G ng 109 (adp109 A109) := as109 stays t149 t150 t153 fun a0_Kind a0_Neg a0_Digits a0_Exp K r h => eq109 cut0_eq a0_Kind a0_Neg a0_Digits a0_Exp K r h
theorem t100 : FnIs Tryz.prog G ng 100 (adp100 A100) := as100 stays t101 t154 is155' fun a0 K r h => eq100 cut0_eq a0 K r h
theorem t106 : FnIs Tryz.prog G ng 106 (adp106 A106) := as106 stays t96 t159 t160 t161 t162 is163' fun a0 K r h => eq106 cut0_eq a0 K r h
theorem t116 : FnIs Tryz.prog G ng 116 (adp116 A116) := as116 stays t90 fun a0 a1 K r h => eq116 cut0_eq a0 a1 K r h
theorem t115 : FnIs Tryz.prog G ng 115 (adp115 A115) := as115 stays t174 fun a0 a1 K r h => eq115 cut0_eq a0 a1 K r h
theorem t173 : FnIs Tryz.prog G ng 173 (adp173 A173) := as173 stays t115 fun a0 a1 a2 K r h => eq173 cut0_eq a0 a1 a2 K r h
theorem t175 : FnIs Tryz.prog G ng 175 (adp175 A175) := as175 stays t173 t176 fun a0 a1 a2 K r h => eq175 cut0_eq a0 a1 a2 K r h
theorem t218 : FnIs Tryz.prog G ng 218 (adp218 A218) := as218 stays t115 fun a0 a1 K r h => eq218 cut0_eq a0 a1 K r h
theorem t130 : FnIs Tryz.prog G ng 130 (adp130 A130) := as130 stays t183 fun a0 K r h => by rw [eq130]; exact h
theorem t132 : FnIs Tryz.prog G ng 132 (adp132 A132) := as132 stays t186 fun a0 K r h => eq132 cut0_eq a0 K r h
theorem t185 : FnIs Tryz.prog G ng 185 (adp185 A185) := as185 stays t186 fun  K r h => by rw [eq185 cut0_eq]; exact h
theorem t110 : FnIs Tryz.prog G ng 110 (adp110 (run110 cut0 A151 A164 A165 A166 A167 A168 A169 big)) := as110 stays is151' t164 t165 t166 t167 t168 t169 fun a0 K r h => h
theorem t67 : FnIs Tryz.prog G ng 67 (adp67 A67) := as67 stays t43 t110 t111 t112 fun a0 K r h => eq67 cut0_eq reads17 a0 K r h
theorem t179 : FnIs Tryz.prog G ng 179 (adp179 A179) := as179 stays t125 t180 t219 fun a0 a1 a2 a3 K r h => eq179 cut0_eq a0 a1 a2 a3 K r h
theorem t95 : FnIs Tryz.prog G ng 95 (adp95 A95) := as95 stays t145 t146 fun a0 a1 K r h => eq95 cut0_eq a0 a1 K r h
theorem t104 : FnIs Tryz.prog G ng 104 (adp104 A104) := as104 stays t146 t150 t158 fun a0 a1 a2 K r h => eq104 cut0_eq a0 a1 a2 K r h
theorem t152 : FnIs Tryz.prog G ng 152 (adp152 A152) := as152 stays t96 t146 t150 is171' t202 t206 t207 fun a0 a1 K r h => eq152 cut0_eq a0 a1 K r h
theorem t66 : FnIs Tryz.prog G ng 66 (adp66 A66) := as66 stays t109 fun a0_Kind a0_Neg a0_Digits a0_Exp K r h => eq66 cut0_eq a0_Kind a0_Neg a0_Digits a0_Exp K r h
theorem t99 : FnIs Tryz.prog G ng 99 (adp99 A99) := as99 stays is148' t149 t150 is151' t152 t153 fun a0 a1 a2 a3 K r h => eq99 cut0_eq a0 a1 a2 a3 K r h
theorem t64 : FnIs Tryz.prog G ng 64 (adp64 A64) := as64 stays t95 t96 t100 t101 is102' is103' t104 t105 fun a0 K r h => eq64 cut0_eq a0 K r h
theorem t108 : FnIs Tryz.prog G ng 108 (adp108 A108) := as108 stays t96 is103' t104 fun a0 K r h => eq108 cut0_eq a0 K r h
theorem t117 : FnIs Tryz.prog G ng 117 (adp117 A117) := as117 stays t92 t115 t116 t122 t174 t175 fun a0 K r h => eq117 cut0_eq a0 K r h
theorem t119 : FnIs Tryz.prog G ng 119 (adp119 A119) := as119 stays t114 t115 t174 fun a0 a1 K r h => eq119 cut0_eq a0 a1 K r h
theorem t113 : FnIs Tryz.prog G ng 113 (adp113 A113) := as113 stays t90 t173 fun a0 a1 K r h => eq113 cut0_eq a0 a1 K r h
theorem t177 : FnIs Tryz.prog G ng 177 (adp177 A177) := as177 stays t20 t115 t173 t176 t217 t218 fun a0 a1 K r h => eq177 cut0_eq a0 a1 K r h
theorem t78 : FnIs Tryz.prog G ng 78 (adp78 A78) := as78 stays t40 t130 fun a0 a1 K r h => by rw [eq78]; exact h
theorem t131 : FnIs Tryz.prog G ng 131 (adp131 A131) := as131 stays t132 is151' is184' t185 fun a0 K r h => eq131 cut0_eq a0 K r h
theorem t127 : FnIs Tryz.prog G ng 127 (adp127 A127) := as127 stays t92 t123 t124 t126 t178 t179 t180 fun a0 a1 a2 a3 a4 K r h => by rw [eq127 cut0_eq]; exact h
theorem t62 : FnIs Tryz.prog G ng 62 (adp62 A62) := as62 stays t93 is94' t95 t96 fun a0 K r h => eq62 cut0_eq a0 K r h
theorem t63 : FnIs Tryz.prog G ng 63 (adp63 A63) := as63 stays t62 t93 is94' t96 t97 t98 t99 fun a0 K r h => eq63 cut0_eq a0 K r h
theorem t65 : FnIs Tryz.prog G ng 65 (adp65 A65) := as65 stays t99 t106 t107 t108 fun a0 K r h => eq65 a0 K r h
theorem t72 : FnIs Tryz.prog G ng 72 (adp72 A72) := as72 stays t113 t114 t115 t116 t117 fun a0 K r h => eq72 cut0_eq a0 K r h
theorem t120 : FnIs Tryz.prog G ng 120 (adp120 A120) := as120 stays t174 t176 t177 fun a0 a1 a2 a3 K r h => eq120 cut0_eq a0 a1 a2 a3 K r h
theorem t79 : FnIs Tryz.prog G ng 79 (adp79 A79) := as79 stays t63 t65 t66 fun a0 a1 K r h => eq79 a0 a1 K r h
theorem t80 : FnIs Tryz.prog G ng 80 (adp80 A80) := as80 stays t131 t132 fun a0 K r h => eq80 a0 K r h
theorem t76 : FnIs Tryz.prog G ng 76 (adp76 A76) := as76 stays t123 t124 t125 t126 t127 fun a0 K r h => eq76 cut0_eq a0 K r h
theorem t41 : FnIs Tryz.prog G ng 41 (adp41 A41) := as41 stays t62 t63 t64 t65 t66 t67 fun a0 a1 K r h => eq41 cut0_eq a0 a1 K r h
theorem t75 : FnIs Tryz.prog G ng 75 (adp75 A75) := as75 stays t92 t114 t116 t117 t118 t119 t120 t122 fun a0 K r h => eq75 cut0_eq a0 K r h
theorem t46 : FnIs Tryz.prog G ng 46 (adp46 A46) := as46 stays t42 t62 t64 t67 t78 t79 t80 fun a0 a1 a2 K r h => eq46 a0 a1 a2 K r h
theorem t16 : FnIs Tryz.prog G ng 16 (adp16 A16) := as16 stays t40 t41 t42 t43 fun a0 a1 K r h => eq16 cut0_eq a0 a1 K r h
theorem t25 : FnIs Tryz.prog G ng 25 (adp25 A25) := as25 stays t16 t27 t43 t46 fun a0 a1 a2 a3 K r h => eq25 cut0_eq a0 a1 a2 a3 K r h
theorem t22 : FnIs Tryz.prog G ng 22 (adp22 A22) := as22 stays t25 t27 fun  K r h => by rw [eq22]; exact h
theorem t7 : FnIs Tryz.prog G ng 7 (adp7 A7) := as7 stays t19 t22 t23 t24 t25 fun a0 a1 a2 a3 a4 a5 K r h => eq7 cut0_eq a0 a1 a2 a3 a4 a5 K r h
theorem t8 : FnIs Tryz.prog G ng 8 (adp8 A8) := as8 stays t16 t19 t22 t25 fun a0 a1 a2 a3 K r h => eq8 cut0_eq a0 a1 a2 a3 K r h
theorem t9 : FnIs Tryz.prog G ng 9 (adp9 A9) := as9 stays t16 t19 t22 t24 t25 fun a0 a1 a2 a3 K r h => eq9 cut0_eq a0 a1 a2 a3 K r h
end Go.Proofs.YtffmgholjdfcnaaGreatDoor
