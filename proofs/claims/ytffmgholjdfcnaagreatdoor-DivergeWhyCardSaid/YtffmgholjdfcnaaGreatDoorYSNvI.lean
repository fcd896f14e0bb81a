import Derived.Test.YtffmgholjdfcnaaGreatDoorYSNuU
import Derived.Test.YtffmgholjdfcnaaGreatDoorYSNvC
import Derived.Test.YtffmgholjdfcnaaGreatDoorYSNvH
set_option linter.unusedVariables false
namespace Go.Proofs.YtffmgholjdfcnaaGreatDoor
open Go AM St Nu
theorem t112:FnP G ng 112 (adp112 A112):=as112 stays is171' is172' fun a0 a1 K r h=>eq112 a0 a1 K r h
theorem t166:FnP G ng 166 (adp166 A166):=as166 stays is155' fun q_s q_bad a1 K r h=>by rw [eq166 cut0_eq];exact h
theorem t170:FnP G ng 170 (adp170 A170):=as170 stays  fun a0 a1 K r h=>by rw [eq170 cut0_eq];exact h
theorem t213:FnP G ng 213 (adp213 A213):=as213 stays  fun a0 a1 K r h=>eq213 cut0_eq a0 a1 K r h
theorem t43:FnP G ng 43 (adp43 A43):=as43 stays is68' fun a0 K r h=>eq43 a0 K r h
theorem t125:FnP G ng 125 (adp125 A125):=as125 stays  fun a0 a1 K r h=>by rw [eq125 cut0_eq];exact h
theorem t126:FnP G ng 126 (adp126 A126):=as126 stays  fun a0 a1 a2 K r h=>eq126 cut0_eq a0 a1 a2 K r h
theorem t92:FnP G ng 92 (adp92 A92):=as92 stays  fun a0 K r h=>by rw [eq92];exact h
theorem t20:FnP G ng 20 (adp20 A20):=as20 stays  fun a0 K r h=>eq20 cut0_eq a0 K r h
theorem t40:FnP G ng 40 (adp40 A40):=as40 stays  fun a0 a1 K r h=>by rw [eq40 cut0_eq];exact h
theorem t42:FnP G ng 42 (adp42 A42):=as42 stays  fun a0 K r h=>by rw [eq42 cut0_eq];exact h
theorem t93:FnP G ng 93 (adp93 A93):=as93 stays  fun a0 K r h=>by rw [eq93 cut0_eq];exact h
theorem t97:FnP G ng 97 (adp97 A97):=as97 stays  fun a0 a1 K r h=>by rw [eq97 cut0_eq];exact h
theorem t98:FnP G ng 98 (adp98 A98):=as98 stays is148' fun a0 K r h=>eq98 a0 K r h
theorem t145:FnP G ng 145 (adp145 A145):=as145 stays  fun a0 K r h=>eq145 cut0_eq a0 K r h
theorem t147:FnP G ng 147 (adp147 A147):=as147 stays  fun a0 K r h=>eq147 cut0_eq a0 K r h
theorem t158:FnP G ng 158 (adp158 A158):=as158 stays  fun a0 K r h=>by rw [eq158];exact h
theorem t202:FnP G ng 202 (adp202 A202):=as202 stays is230' fun a0 K r h=>by rw [eq202];exact h
theorem t206:FnP G ng 206 (adp206 A206):=as206 stays is232' fun a0 a1 K r h=>by rw [eq206];exact h
theorem t207:FnP G ng 207 (adp207 A207):=as207 stays  fun a0 a1 K r h=>eq207 cut0_eq a0 a1 K r h
theorem t149:FnP G ng 149 (adp149 A149):=as149 stays is163' fun a0 K r h=>eq149 a0 K r h
theorem t101:FnP G ng 101 (adp101 A101):=as101 stays  fun a0 K r h=>by rw [eq101 cut0_eq];exact h
theorem t105:FnP G ng 105 (adp105 A105):=as105 stays  fun a0 K r h=>eq105 cut0_eq a0 K r h
theorem t154:FnP G ng 154 (adp154 A154):=as154 stays is94' fun a0 K r h=>by rw [eq154];exact h
theorem t107:FnP G ng 107 (adp107 A107):=as107 stays is102' fun a0 K r h=>eq107 a0 K r h
theorem t159:FnP G ng 159 (adp159 A159):=as159 stays  fun a0 a1 K r h=>by rw [eq159 cut0_eq];exact h
theorem t160:FnP G ng 160 (adp160 A160):=as160 stays  fun a0 K r h=>by rw [eq160];exact h
theorem t161:FnP G ng 161 (adp161 A161):=as161 stays t160 fun a0 K r h=>eq161 cut0_eq a0 K r h
theorem t162:FnP G ng 162 (adp162 A162):=as162 stays t160 fun a0 K r h=>by rw [eq162 cut0_eq];exact h
theorem t70:FnP G ng 70 (adp70 A70):=as70 stays  fun a0 K r h=>by rw [eq70];exact h
theorem t44:FnP G ng 44 (adp44 A44):=as44 stays  fun a0 K r h=>by rw [eq44];exact h
theorem t69:FnP G ng 69 (adp69 A69):=as69 stays  fun a0 a1 K r h=>by rw [eq69 cut0_eq];exact h
theorem t114:FnP G ng 114 (adp114 A114):=as114 stays  fun a0 K r h=>by rw [eq114 cut0_eq];exact h
theorem t118:FnP G ng 118 (adp118 A118):=as118 stays  fun a0 a1 a2 K r h=>by rw [eq118 cut0_eq];exact h
theorem t122:FnP G ng 122 (adp122 A122):=as122 stays  fun a0 a1 K r h=>eq122 cut0_eq a0 a1 K r h
theorem t90:FnP G ng 90 (adp90 A90):=as90 stays  fun a0 K r h=>eq90 cut0_eq a0 K r h
theorem t174:FnP G ng 174 (adp174 A174):=as174 stays t92 fun a0 K r h=>eq174 cut0_eq a0 K r h
theorem t176:FnP G ng 176 (adp176 A176):=as176 stays t174 fun a0 K r h=>eq176 cut0_eq a0 K r h
theorem t217:FnP G ng 217 (adp217 A217):=as217 stays  fun a0 a1 K r h=>by rw [eq217];exact h
theorem t19:FnP G ng 19 (adp19 A19):=as19 stays  fun a0 K r h=>by rw [eq19];exact h
theorem t24:FnP G ng 24 (adp24 A24):=as24 stays  fun a0 K r h=>eq24 cut0_eq a0 K r h
theorem t27:FnP G ng 27 (adp27 A27):=as27 stays  fun a0 K r h=>by rw [eq27 cut0_eq];exact h
theorem t28:FnP G ng 28 (adp28 A28):=as28 stays  fun a0 K r h=>by rw [eq28 cut0_eq];exact h
theorem t129:FnP G ng 129 (adp129 A129):=as129 stays  fun a0 K r h=>eq129 cut0_eq a0 K r h
theorem t181:FnP G ng 181 (adp181 A181):=as181 stays  fun a0 K r h=>eq181 cut0_eq a0 K r h
theorem t182:FnP G ng 182 (adp182 A182):=as182 stays  fun a0 K r h=>eq182 cut0_eq a0 K r h
theorem t183:FnP G ng 183 (adp183 A183):=as183 stays  fun a0 K r h=>by rw [eq183];exact h
theorem t186:FnP G ng 186 (adp186 A186):=as186 stays  fun  K r h=>by rw [eq186];exact h
theorem t153:FnP G ng 153 (adp153 A153):=as153 stays fun a0 K r h=>by rw [run153_eq];exact h
theorem t111:FnP G ng 111 (adp111 A111):=as111 stays t170 fun a0_year a0_month a0_day a0_hour a0_minute a0_second a0_frac a0_zone K r h=>by rw [eq111 cut0_eq];exact h
theorem t164:FnP G ng 164 (adp164 A164):=as164 stays t166 fun q_s q_bad a1 a2 K r h=>eq164 cut0_eq q_s q_bad a1 a2 K r h
theorem t165:FnP G ng 165 (adp165 A165):=as165 stays t166 fun q_s q_bad a1 K r h=>eq165 cut0_eq q_s q_bad a1 K r h
theorem t167:FnP G ng 167 (adp167 A167):=as167 stays t213 fun q_s q_bad a1 K r h=>eq167 q_s q_bad a1 K r h
theorem t168:FnP G ng 168 (adp168 A168):=as168 stays t164 t166 fun q_s q_bad K r h=>eq168 cut0_eq q_s q_bad K r h
theorem t169:FnP G ng 169 (adp169 A169):=as169 stays t170 fun a0_year a0_month a0_day a0_hour a0_minute a0_second a0_frac a0_zone K r h=>by rw [eq169];exact h
theorem t123:FnP G ng 123 (adp123 A123):=as123 stays t92 fun a0 a1 a2 a3 K r h=>eq123 cut0_eq a0 a1 a2 a3 K r h
theorem t124:FnP G ng 124 (adp124 A124):=as124 stays t123 t126 fun a0 a1 a2 a3 a4 K r h=>eq124 a0 a1 a2 a3 a4 K r h
theorem t178:FnP G ng 178 (adp178 A178):=as178 stays t124 fun a0 a1 K r h=>eq178 cut0_eq a0 a1 K r h
theorem t180:FnP G ng 180 (adp180 A180):=as180 stays t20 fun a0 K r h=>eq180 a0 K r h
theorem t219:FnP G ng 219 (adp219 A219):=as219 stays t180 fun a0 a1 a2 K r h=>eq219 a0 a1 a2 K r h
theorem t96:FnP G ng 96 (adp96 A96):=as96 stays t43 t147 is148' fun a0 a1 K r h=>eq96 a0 a1 K r h
theorem t150:FnP G ng 150 (adp150 A150):=as150 stays t147 t202 fun a0 K r h=>eq150 a0 K r h
theorem t146:FnP G ng 146 (adp146 A146):=as146 stays t96 o197 fun a0 a1 a2 K r h=>eq146 cut0_eq a0 a1 a2 K r h
theorem t109:FnP G ng 109 (adp109 A109):=as109 stays t149 t150 t153 fun a0_Kind a0_Neg a0_Digits a0_Exp K r h=>eq109 cut0_eq a0_Kind a0_Neg a0_Digits a0_Exp K r h
theorem t100:FnP G ng 100 (adp100 A100):=as100 stays t101 t154 is155' fun a0 K r h=>eq100 cut0_eq a0 K r h
theorem t106:FnP G ng 106 (adp106 A106):=as106 stays t96 t159 t160 t161 t162 is163' fun a0 K r h=>eq106 cut0_eq a0 K r h
theorem t116:FnP G ng 116 (adp116 A116):=as116 stays t90 fun a0 a1 K r h=>eq116 cut0_eq a0 a1 K r h
theorem t128:FnP G ng 128 (adp128 A128):=as128 stays t129 t181 t182 fun a0 K r h=>eq128 cut0_eq a0 K r h
theorem t115:FnP G ng 115 (adp115 A115):=as115 stays t174 fun a0 a1 K r h=>eq115 cut0_eq a0 a1 K r h
theorem t121:FnP G ng 121 (adp121 A121):=as121 stays t174 t176 fun a0_Kind a0_Neg a0_Digits a0_Exp K r h=>eq121 cut0_eq a0_Kind a0_Neg a0_Digits a0_Exp K r h
theorem t173:FnP G ng 173 (adp173 A173):=as173 stays t115 fun a0 a1 a2 K r h=>eq173 cut0_eq a0 a1 a2 K r h
theorem t175:FnP G ng 175 (adp175 A175):=as175 stays t173 t176 fun a0 a1 a2 K r h=>eq175 cut0_eq a0 a1 a2 K r h
theorem t218:FnP G ng 218 (adp218 A218):=as218 stays t115 fun a0 a1 K r h=>eq218 cut0_eq a0 a1 K r h
theorem t77:FnP G ng 77 (adp77 A77):=as77 stays t128 t129 fun a0 K r h=>eq77 a0 K r h
theorem t130:FnP G ng 130 (adp130 A130):=as130 stays t183 fun a0 K r h=>by rw [eq130];exact h
theorem t132:FnP G ng 132 (adp132 A132):=as132 stays t186 fun a0 K r h=>eq132 cut0_eq a0 K r h
theorem t185:FnP G ng 185 (adp185 A185):=as185 stays t186 fun  K r h=>by rw [eq185 cut0_eq];exact h
theorem t110:FnP G ng 110 (adp110 (run110 cut0 A151 A164 A165 A166 A167 A168 A169 big)):=as110 stays is151' t164 t165 t166 t167 t168 t169 fun a0 K r h=>h
theorem t67:FnP G ng 67 (adp67 A67):=as67 stays t43 t110 t111 t112 fun a0 K r h=>eq67 cut0_eq reads17 a0 K r h
theorem t179:FnP G ng 179 (adp179 A179):=as179 stays t125 t180 t219 fun a0 a1 a2 a3 K r h=>eq179 cut0_eq a0 a1 a2 a3 K r h
theorem t95:FnP G ng 95 (adp95 A95):=as95 stays t145 t146 fun a0 a1 K r h=>eq95 cut0_eq a0 a1 K r h
theorem t104:FnP G ng 104 (adp104 A104):=as104 stays t146 t150 t158 fun a0 a1 a2 K r h=>eq104 cut0_eq a0 a1 a2 K r h
theorem t152:FnP G ng 152 (adp152 A152):=as152 stays t96 t146 t150 is171' t202 t206 t207 fun a0 a1 K r h=>eq152 cut0_eq a0 a1 K r h
theorem t66:FnP G ng 66 (adp66 A66):=as66 stays t109 fun a0_Kind a0_Neg a0_Digits a0_Exp K r h=>eq66 cut0_eq a0_Kind a0_Neg a0_Digits a0_Exp K r h
theorem t99:FnP G ng 99 (adp99 A99):=as99 stays is148' t149 t150 is151' t152 t153 fun a0 a1 a2 a3 K r h=>eq99 cut0_eq a0 a1 a2 a3 K r h
theorem t64:FnP G ng 64 (adp64 A64):=as64 stays t95 t96 t100 t101 is102' is103' t104 t105 fun a0 K r h=>eq64 cut0_eq a0 K r h
theorem t108:FnP G ng 108 (adp108 A108):=as108 stays t96 is103' t104 fun a0 K r h=>eq108 cut0_eq a0 K r h
theorem t117:FnP G ng 117 (adp117 A117):=as117 stays t92 t115 t116 t122 t174 t175 fun a0 K r h=>eq117 cut0_eq a0 K r h
theorem t119:FnP G ng 119 (adp119 A119):=as119 stays t114 t115 t174 fun a0 a1 K r h=>eq119 cut0_eq a0 a1 K r h
theorem t74:FnP G ng 74 (adp74 A74):=as74 stays t121 fun a0_Kind a0_Neg a0_Digits a0_Exp K r h=>eq74 cut0_eq a0_Kind a0_Neg a0_Digits a0_Exp K r h
theorem t113:FnP G ng 113 (adp113 A113):=as113 stays t90 t173 fun a0 a1 K r h=>eq113 cut0_eq a0 a1 K r h
theorem t177:FnP G ng 177 (adp177 A177):=as177 stays t20 t115 t173 t176 t217 t218 fun a0 a1 K r h=>eq177 cut0_eq a0 a1 K r h
theorem t78:FnP G ng 78 (adp78 A78):=as78 stays t40 t130 fun a0 a1 K r h=>by rw [eq78];exact h
theorem t131:FnP G ng 131 (adp131 A131):=as131 stays t132 is151' is184' t185 fun a0 K r h=>eq131 cut0_eq a0 K r h
theorem t127:FnP G ng 127 (adp127 A127):=as127 stays t92 t123 t124 t126 t178 t179 t180 fun a0 a1 a2 a3 a4 K r h=>by rw [eq127 cut0_eq];exact h
theorem t62:FnP G ng 62 (adp62 A62):=as62 stays t93 is94' t95 t96 fun a0 K r h=>eq62 cut0_eq a0 K r h
theorem t63:FnP G ng 63 (adp63 A63):=as63 stays t62 t93 is94' t96 t97 t98 t99 fun a0 K r h=>eq63 cut0_eq a0 K r h
theorem t65:FnP G ng 65 (adp65 A65):=as65 stays t99 t106 t107 t108 fun a0 K r h=>eq65 a0 K r h
theorem t71:FnP G ng 71 (adp71 A71):=as71 stays t113 t114 t115 fun a0 K r h=>eq71 cut0_eq a0 K r h
theorem t72:FnP G ng 72 (adp72 A72):=as72 stays t113 t114 t115 t116 t117 fun a0 K r h=>eq72 cut0_eq a0 K r h
theorem t120:FnP G ng 120 (adp120 A120):=as120 stays t174 t176 t177 fun a0 a1 a2 a3 K r h=>eq120 cut0_eq a0 a1 a2 a3 K r h
theorem t79:FnP G ng 79 (adp79 A79):=as79 stays t63 t65 t66 fun a0 a1 K r h=>eq79 a0 a1 K r h
theorem t80:FnP G ng 80 (adp80 A80):=as80 stays t131 t132 fun a0 K r h=>eq80 a0 K r h
theorem t76:FnP G ng 76 (adp76 A76):=as76 stays t123 t124 t125 t126 t127 fun a0 K r h=>eq76 cut0_eq a0 K r h
theorem t41:FnP G ng 41 (adp41 A41):=as41 stays t62 t63 t64 t65 t66 t67 fun a0 a1 K r h=>eq41 cut0_eq a0 a1 K r h
theorem t73:FnP G ng 73 (adp73 A73):=as73 stays t71 t92 t114 t118 t119 t120 fun a0 K r h=>eq73 cut0_eq a0 K r h
theorem t75:FnP G ng 75 (adp75 A75):=as75 stays t92 t114 t116 t117 t118 t119 t120 t122 fun a0 K r h=>eq75 cut0_eq a0 K r h
theorem t46:FnP G ng 46 (adp46 A46):=as46 stays t42 t62 t64 t67 t78 t79 t80 fun a0 a1 a2 K r h=>eq46 a0 a1 a2 K r h
theorem t77d:FnP G ng 77 (adp77 fun _ _=>none):=by intro rc cs K r h;unfold adp77 yq15 at h;split at h<;>cases h
theorem t45:FnP G ng 45 (adp45 A45):=as45 stays t44 t69 t70 t71 t72 t73 t74 t75 t76 t77d fun a0 a1 a2 K r h=>eq45 a0 a1 a2 K r h
theorem t45b:FnP G ng 45 (adp45 A45b):=as45 stays t44 t69 t70 t71 t72 t73 t74 t75 t76 t77 fun a0 a1 a2 K r h=>eq45b a0 a1 a2 K r h
theorem t16:FnP G ng 16 (adp16 A16):=as16 stays t40 t41 t42 t43 fun a0 a1 K r h=>eq16 cut0_eq a0 a1 K r h
theorem t17:FnP G ng 17 (adp17 A17):=as17 stays t44 t45 fun a0 a1 K r h=>eq17 cut0_eq a0 a1 K r h
theorem t25:FnP G ng 25 (adp25 A25):=as25 stays t16 t27 t43 t46 fun a0 a1 a2 a3 K r h=>eq25 cut0_eq a0 a1 a2 a3 K r h
theorem t26:FnP G ng 26 (adp26 A26):=as26 stays t17 t28 t45b fun a0 a1 a2 a3 K r h=>eq26 cut0_eq a0 a1 a2 a3 K r h
theorem t22:FnP G ng 22 (adp22 A22):=as22 stays t25 t27 fun  K r h=>by rw [eq22];exact h
theorem t9:FnP G ng 9 (adp9 A9):=as9 stays t16 t19 t22 t24 t25 fun a0 a1 a2 a3 K r h=>eq9 cut0_eq a0 a1 a2 a3 K r h
end Go.Proofs.YtffmgholjdfcnaaGreatDoor
