/- Texts of this session, joined. -/
import Derived.Test.YtffmgholjdfcnaaGreatDoorJB
import Derived.Test.YtffmgholjdfcnaaGreatDoorProg
set_option maxRecDepth 100000
set_option linter.unusedVariables false
namespace Go.Proofs.YtffmgholjdfcnaaGreatDoor
open Go Go.Proofs AM
open Go.IntKind (i64 u8)
noncomputable section
abbrev Cv (C : Nat → Env → (Env → Option Out) → Option Out) : Prop := ∀ key e t, C key e t = t e
abbrev Ty14 := (Bool → Option Out) → Option Out
abbrev Ty15 := (List Int) → (BY → Option Out) → Option Out
abbrev Ty16 := Int → BY → (BY → BY → Option Out) → Option Out
abbrev Tk16 := BY → BY → Option Out
def tok16 (Kt : Tk16) : Out → Option Out
 | ([.agg (.ss [.str r0_Tag, .str r0_Text])], none) => Kt r0_Tag r0_Text
 | _ => none
def adp16 (N : Ty16) : Fn1
 | none, [.s (.int .i64 a0), .s (.str a1)], K => N a0 a1 (fun r0_Tag r0_Text => K ([.agg (.ss [.str r0_Tag, .str r0_Text])], none))
 | _, _, _ => none
abbrev Ty17 := Int → BY → (BY → BY → Option Out) → Option Out
abbrev Ty18 := BY → (Bool → Option Out) → Option Out
abbrev Ty19 := Bool → (Int → Option Out) → Option Out
abbrev Tk19 := Int → Option Out
def tok19 (Kt : Tk19) : Out → Option Out
 | ([.s (.int .i64 r0)], none) => Kt r0
 | _ => none
def adp19 (N : Ty19) : Fn1
 | none, [.s (.bool a0)], K => N a0 (fun r0 => K ([.s (.int .i64 r0)], none))
 | _, _, _ => none
abbrev Ty20 := Int → (BY → Option Out) → Option Out
abbrev Tk20 := BY → Option Out
def tok20 (Kt : Tk20) : Out → Option Out
 | ([.s (.str r0)], none) => Kt r0
 | _ => none
def adp20 (N : Ty20) : Fn1
 | none, [.s (.int .i64 a0)], K => N a0 (fun r0 => K ([.s (.str r0)], none))
 | _, _, _ => none
abbrev Ty21 := BY → BY → BY → BY → BY → (Bool → Option Out) → Option Out
abbrev Ty40 := Int → BY → (Bool → Bool → Option Out) → Option Out
abbrev Tk40 := Bool → Bool → Option Out
def tok40 (Kt : Tk40) : Out → Option Out
 | ([.s (.bool r0), .s (.bool r1)], none) => Kt r0 r1
 | _ => none
def adp40 (N : Ty40) : Fn1
 | none, [.s (.int .i64 a0), .s (.str a1)], K => N a0 a1 (fun r0 r1 => K ([.s (.bool r0), .s (.bool r1)], none))
 | _, _, _ => none
abbrev Ty41 := Int → BY → (BY → BY → Bool → Option Out) → Option Out
abbrev Tk41 := BY → BY → Bool → Option Out
def tok41 (Kt : Tk41) : Out → Option Out
 | ([.agg (.ss [.str r0_Tag, .str r0_Text]), .s (.bool r1)], none) => Kt r0_Tag r0_Text r1
 | _ => none
def adp41 (N : Ty41) : Fn1
 | none, [.s (.int .i64 a0), .s (.str a1)], K => N a0 a1 (fun r0_Tag r0_Text r1 => K ([.agg (.ss [.str r0_Tag, .str r0_Text]), .s (.bool r1)], none))
 | _, _, _ => none
abbrev Ty42 := BY → (Bool → Option Out) → Option Out
abbrev Tk42 := Bool → Option Out
def tok42 (Kt : Tk42) : Out → Option Out
 | ([.s (.bool r0)], none) => Kt r0
 | _ => none
def adp42 (N : Ty42) : Fn1
 | none, [.s (.str a0)], K => N a0 (fun r0 => K ([.s (.bool r0)], none))
 | _, _, _ => none
abbrev Ty43 := BY → (BY → Option Out) → Option Out
abbrev Tk43 := BY → Option Out
def tok43 (Kt : Tk43) : Out → Option Out
 | ([.s (.str r0)], none) => Kt r0
 | _ => none
def adp43 (N : Ty43) : Fn1
 | none, [.s (.str a0)], K => N a0 (fun r0 => K ([.s (.str r0)], none))
 | _, _, _ => none
abbrev Ty44 := BY → (Bool → Option Out) → Option Out
abbrev Ty45 := Int → BY → BY → (BY → Bool → Option Out) → Option Out
abbrev Ty62 := BY → (BY → Bool → Option Out) → Option Out
abbrev Tk62 := BY → Bool → Option Out
def tok62 (Kt : Tk62) : Out → Option Out
 | ([.s (.str r0), .s (.bool r1)], none) => Kt r0 r1
 | _ => none
def adp62 (N : Ty62) : Fn1
 | none, [.s (.str a0)], K => N a0 (fun r0 r1 => K ([.s (.str r0), .s (.bool r1)], none))
 | _, _, _ => none
abbrev Ty63 := BY → (Int → Bool → BY → BY → Bool → Option Out) → Option Out
abbrev Tk63 := Int → Bool → BY → BY → Bool → Option Out
def tok63 (Kt : Tk63) : Out → Option Out
 | ([.agg (.ss [.int .i64 r0_Kind, .bool r0_Neg, .str r0_Digits, .str r0_Exp]), .s (.bool r1)], none) => Kt r0_Kind r0_Neg r0_Digits r0_Exp r1
 | _ => none
def adp63 (N : Ty63) : Fn1
 | none, [.s (.str a0)], K => N a0 (fun r0_Kind r0_Neg r0_Digits r0_Exp r1 => K ([.agg (.ss [.int .i64 r0_Kind, .bool r0_Neg, .str r0_Digits, .str r0_Exp]), .s (.bool r1)], none))
 | _, _, _ => none
abbrev Ty64 := BY → (BY → Bool → Option Out) → Option Out
abbrev Tk64 := BY → Bool → Option Out
def tok64 (Kt : Tk64) : Out → Option Out
 | ([.s (.str r0), .s (.bool r1)], none) => Kt r0 r1
 | _ => none
def adp64 (N : Ty64) : Fn1
 | none, [.s (.str a0)], K => N a0 (fun r0 r1 => K ([.s (.str r0), .s (.bool r1)], none))
 | _, _, _ => none
abbrev Ty65 := BY → (Int → Bool → BY → BY → Bool → Option Out) → Option Out
abbrev Tk65 := Int → Bool → BY → BY → Bool → Option Out
def tok65 (Kt : Tk65) : Out → Option Out
 | ([.agg (.ss [.int .i64 r0_Kind, .bool r0_Neg, .str r0_Digits, .str r0_Exp]), .s (.bool r1)], none) => Kt r0_Kind r0_Neg r0_Digits r0_Exp r1
 | _ => none
def adp65 (N : Ty65) : Fn1
 | none, [.s (.str a0)], K => N a0 (fun r0_Kind r0_Neg r0_Digits r0_Exp r1 => K ([.agg (.ss [.int .i64 r0_Kind, .bool r0_Neg, .str r0_Digits, .str r0_Exp]), .s (.bool r1)], none))
 | _, _, _ => none
abbrev Ty66 := Int → Bool → BY → BY → (BY → Option Out) → Option Out
abbrev Tk66 := BY → Option Out
def tok66 (Kt : Tk66) : Out → Option Out
 | ([.s (.str r0)], none) => Kt r0
 | _ => none
def adp66 (N : Ty66) : Fn1
 | none, [.agg (.ss [.int .i64 a0_Kind, .bool a0_Neg, .str a0_Digits, .str a0_Exp])], K => N a0_Kind a0_Neg a0_Digits a0_Exp (fun r0 => K ([.s (.str r0)], none))
 | _, _, _ => none
abbrev Ty67 := BY → (BY → Bool → Option Out) → Option Out
abbrev Tk67 := BY → Bool → Option Out
def tok67 (Kt : Tk67) : Out → Option Out
 | ([.s (.str r0), .s (.bool r1)], none) => Kt r0 r1
 | _ => none
def adp67 (N : Ty67) : Fn1
 | none, [.s (.str a0)], K => N a0 (fun r0 r1 => K ([.s (.str r0), .s (.bool r1)], none))
 | _, _, _ => none
abbrev Ty68 := BY → (BY → Option Out) → Option Out
def adp68 (N : Ty68) : Fn1
 | none, [.s (.str a0)], K => N a0 (fun r0 => K ([.s (.str r0)], none))
 | _, _, _ => none
abbrev Ty69 := Int → BY → (Bool → Bool → Option Out) → Option Out
abbrev Ty70 := Bool → (BY → Option Out) → Option Out
abbrev Tk70 := BY → Option Out
def tok70 (Kt : Tk70) : Out → Option Out
 | ([.s (.str r0)], none) => Kt r0
 | _ => none
def adp70 (N : Ty70) : Fn1
 | none, [.s (.bool a0)], K => N a0 (fun r0 => K ([.s (.str r0)], none))
 | _, _, _ => none
abbrev Ty71 := BY → (BY → Bool → Option Out) → Option Out
abbrev Ty72 := BY → (BY → Int → Option Out) → Option Out
abbrev Tk72 := BY → Int → Option Out
def tok72 (Kt : Tk72) : Out → Option Out
 | ([.s (.str r0), .s (.int .i64 r1)], none) => Kt r0 r1
 | _ => none
def adp72 (N : Ty72) : Fn1
 | none, [.s (.str a0)], K => N a0 (fun r0 r1 => K ([.s (.str r0), .s (.int .i64 r1)], none))
 | _, _, _ => none
abbrev Ty73 := BY → (Int → Bool → BY → BY → Bool → Option Out) → Option Out
abbrev Tk73 := Int → Bool → BY → BY → Bool → Option Out
abbrev Ty74 := Int → Bool → BY → BY → (BY → Option Out) → Option Out
abbrev Ty75 := BY → (Int → Bool → BY → BY → Int → Option Out) → Option Out
abbrev Tk75 := Int → Bool → BY → BY → Int → Option Out
def tok75 (Kt : Tk75) : Out → Option Out
 | ([.agg (.ss [.int .i64 r0_Kind, .bool r0_Neg, .str r0_Digits, .str r0_Exp]), .s (.int .i64 r1)], none) => Kt r0_Kind r0_Neg r0_Digits r0_Exp r1
 | _ => none
def adp75 (N : Ty75) : Fn1
 | none, [.s (.str a0)], K => N a0 (fun r0_Kind r0_Neg r0_Digits r0_Exp r1 => K ([.agg (.ss [.int .i64 r0_Kind, .bool r0_Neg, .str r0_Digits, .str r0_Exp]), .s (.int .i64 r1)], none))
 | _, _, _ => none
abbrev Ty76 := BY → (BY → Bool → Option Out) → Option Out
abbrev Tk76 := BY → Bool → Option Out
def tok76 (Kt : Tk76) : Out → Option Out
 | ([.s (.str r0), .s (.bool r1)], none) => Kt r0 r1
 | _ => none
def adp76 (N : Ty76) : Fn1
 | none, [.s (.str a0)], K => N a0 (fun r0 r1 => K ([.s (.str r0), .s (.bool r1)], none))
 | _, _, _ => none
abbrev Ty77 := BY → (BY → Bool → Option Out) → Option Out
abbrev Ty90 := Int → (Int → Option Out) → Option Out
abbrev Tk90 := Int → Option Out
def tok90 (Kt : Tk90) : Out → Option Out
 | ([.s (.int .i64 r0)], none) => Kt r0
 | _ => none
def adp90 (N : Ty90) : Fn1
 | none, [.s (.int .u8 a0)], K => N a0 (fun r0 => K ([.s (.int .i64 r0)], none))
 | _, _, _ => none
abbrev Ty92 := Int → (Bool → Option Out) → Option Out
abbrev Tk92 := Bool → Option Out
def tok92 (Kt : Tk92) : Out → Option Out
 | ([.s (.bool r0)], none) => Kt r0
 | _ => none
def adp92 (N : Ty92) : Fn1
 | none, [.s (.int .u8 a0)], K => N a0 (fun r0 => K ([.s (.bool r0)], none))
 | _, _, _ => none
abbrev Ty93 := BY → (BY → BY → Option Out) → Option Out
abbrev Tk93 := BY → BY → Option Out
def tok93 (Kt : Tk93) : Out → Option Out
 | ([.s (.str r0), .s (.str r1)], none) => Kt r0 r1
 | _ => none
def adp93 (N : Ty93) : Fn1
 | none, [.s (.str a0)], K => N a0 (fun r0 r1 => K ([.s (.str r0), .s (.str r1)], none))
 | _, _, _ => none
abbrev Ty94 := BY → BY → (Bool → Option Out) → Option Out
def adp94 (N : Ty94) : Fn1
 | none, [.s (.str a0), .s (.str a1)], K => N a0 a1 (fun r0 => K ([.s (.bool r0)], none))
 | _, _, _ => none
abbrev Ty95 := BY → Int → (BY → Option Out) → Option Out
abbrev Tk95 := BY → Option Out
def tok95 (Kt : Tk95) : Out → Option Out
 | ([.s (.str r0)], none) => Kt r0
 | _ => none
def adp95 (N : Ty95) : Fn1
 | none, [.s (.str a0), .s (.int .i64 a1)], K => N a0 a1 (fun r0 => K ([.s (.str r0)], none))
 | _, _, _ => none
abbrev Ty96 := Bool → BY → (BY → Option Out) → Option Out
abbrev Tk96 := BY → Option Out
def tok96 (Kt : Tk96) : Out → Option Out
 | ([.s (.str r0)], none) => Kt r0
 | _ => none
def adp96 (N : Ty96) : Fn1
 | none, [.s (.bool a0), .s (.str a1)], K => N a0 a1 (fun r0 => K ([.s (.str r0)], none))
 | _, _, _ => none
abbrev Ty97 := BY → BY → (Int → Bool → BY → BY → Bool → Option Out) → Option Out
abbrev Tk97 := Int → Bool → BY → BY → Bool → Option Out
def tok97 (Kt : Tk97) : Out → Option Out
 | ([.agg (.ss [.int .i64 r0_Kind, .bool r0_Neg, .str r0_Digits, .str r0_Exp]), .s (.bool r1)], none) => Kt r0_Kind r0_Neg r0_Digits r0_Exp r1
 | _ => none
def adp97 (N : Ty97) : Fn1
 | none, [.s (.str a0), .s (.str a1)], K => N a0 a1 (fun r0_Kind r0_Neg r0_Digits r0_Exp r1 => K ([.agg (.ss [.int .i64 r0_Kind, .bool r0_Neg, .str r0_Digits, .str r0_Exp]), .s (.bool r1)], none))
 | _, _, _ => none
abbrev Ty98 := BY → (BY → BY → Option Out) → Option Out
abbrev Tk98 := BY → BY → Option Out
def tok98 (Kt : Tk98) : Out → Option Out
 | ([.s (.str r0), .s (.str r1)], none) => Kt r0 r1
 | _ => none
def adp98 (N : Ty98) : Fn1
 | none, [.s (.str a0)], K => N a0 (fun r0 r1 => K ([.s (.str r0), .s (.str r1)], none))
 | _, _, _ => none
abbrev Ty99 := Bool → BY → BY → BY → (Int → Bool → BY → BY → Bool → Option Out) → Option Out
abbrev Tk99 := Int → Bool → BY → BY → Bool → Option Out
def tok99 (Kt : Tk99) : Out → Option Out
 | ([.agg (.ss [.int .i64 r0_Kind, .bool r0_Neg, .str r0_Digits, .str r0_Exp]), .s (.bool r1)], none) => Kt r0_Kind r0_Neg r0_Digits r0_Exp r1
 | _ => none
def adp99 (N : Ty99) : Fn1
 | none, [.s (.bool a0), .s (.str a1), .s (.str a2), .s (.str a3)], K => N a0 a1 a2 a3 (fun r0_Kind r0_Neg r0_Digits r0_Exp r1 => K ([.agg (.ss [.int .i64 r0_Kind, .bool r0_Neg, .str r0_Digits, .str r0_Exp]), .s (.bool r1)], none))
 | _, _, _ => none
abbrev Ty100 := BY → (Int → Option Out) → Option Out
abbrev Tk100 := Int → Option Out
def tok100 (Kt : Tk100) : Out → Option Out
 | ([.s (.int .i64 r0)], none) => Kt r0
 | _ => none
def adp100 (N : Ty100) : Fn1
 | none, [.s (.str a0)], K => N a0 (fun r0 => K ([.s (.int .i64 r0)], none))
 | _, _, _ => none
abbrev Ty101 := BY → (Bool → BY → Option Out) → Option Out
abbrev Tk101 := Bool → BY → Option Out
def tok101 (Kt : Tk101) : Out → Option Out
 | ([.s (.bool r0), .s (.str r1)], none) => Kt r0 r1
 | _ => none
def adp101 (N : Ty101) : Fn1
 | none, [.s (.str a0)], K => N a0 (fun r0 r1 => K ([.s (.bool r0), .s (.str r1)], none))
 | _, _, _ => none
abbrev Ty102 := BY → BY → BY → (BY → Option Out) → Option Out
def adp102 (N : Ty102) : Fn1
 | none, [.s (.str a0), .s (.str a1), .s (.str a2)], K => N a0 a1 a2 (fun r0 => K ([.s (.str r0)], none))
 | _, _, _ => none
abbrev Ty103 := BY → BY → ((List BY) → Option Out) → Option Out
def adp103 (N : Ty103) : Fn1
 | none, [.s (.str a0), .s (.str a1)], K => N a0 a1 (fun r0 => K ([.own (.strs r0)], none))
 | _, _, _ => none
abbrev Ty104 := BY → Int → Int → (BY → Option Out) → Option Out
abbrev Tk104 := BY → Option Out
def tok104 (Kt : Tk104) : Out → Option Out
 | ([.s (.str r0)], none) => Kt r0
 | _ => none
def adp104 (N : Ty104) : Fn1
 | none, [.s (.str a0), .s (.int .i64 a1), .s (.int .i64 a2)], K => N a0 a1 a2 (fun r0 => K ([.s (.str r0)], none))
 | _, _, _ => none
abbrev Ty105 := BY → (Int → Option Out) → Option Out
abbrev Tk105 := Int → Option Out
def tok105 (Kt : Tk105) : Out → Option Out
 | ([.s (.int .i64 r0)], none) => Kt r0
 | _ => none
def adp105 (N : Ty105) : Fn1
 | none, [.s (.str a0)], K => N a0 (fun r0 => K ([.s (.int .i64 r0)], none))
 | _, _, _ => none
abbrev Ty106 := BY → (Int → Bool → BY → BY → BY → Option Out) → Option Out
abbrev Tk106 := Int → Bool → BY → BY → BY → Option Out
def tok106 (Kt : Tk106) : Out → Option Out
 | ([.agg (.ss [.int .i64 r0_kind, .bool r0_neg, .str r0_whole, .str r0_frac, .str r0_exp])], none) => Kt r0_kind r0_neg r0_whole r0_frac r0_exp
 | _ => none
def adp106 (N : Ty106) : Fn1
 | none, [.s (.str a0)], K => N a0 (fun r0_kind r0_neg r0_whole r0_frac r0_exp => K ([.agg (.ss [.int .i64 r0_kind, .bool r0_neg, .str r0_whole, .str r0_frac, .str r0_exp])], none))
 | _, _, _ => none
abbrev Ty107 := BY → (BY → Option Out) → Option Out
abbrev Tk107 := BY → Option Out
def tok107 (Kt : Tk107) : Out → Option Out
 | ([.s (.str r0)], none) => Kt r0
 | _ => none
def adp107 (N : Ty107) : Fn1
 | none, [.s (.str a0)], K => N a0 (fun r0 => K ([.s (.str r0)], none))
 | _, _, _ => none
abbrev Ty108 := BY → (BY → Option Out) → Option Out
abbrev Tk108 := BY → Option Out
def tok108 (Kt : Tk108) : Out → Option Out
 | ([.s (.str r0)], none) => Kt r0
 | _ => none
def adp108 (N : Ty108) : Fn1
 | none, [.s (.str a0)], K => N a0 (fun r0 => K ([.s (.str r0)], none))
 | _, _, _ => none
abbrev Ty109 := Int → Bool → BY → BY → (Bool → Option Out) → Option Out
abbrev Tk109 := Bool → Option Out
def tok109 (Kt : Tk109) : Out → Option Out
 | ([.s (.bool r0)], none) => Kt r0
 | _ => none
def adp109 (N : Ty109) : Fn1
 | none, [.agg (.ss [.int .i64 a0_Kind, .bool a0_Neg, .str a0_Digits, .str a0_Exp])], K => N a0_Kind a0_Neg a0_Digits a0_Exp (fun r0 => K ([.s (.bool r0)], none))
 | _, _, _ => none
abbrev Ty110 := BY → (Int → Int → Int → Int → Int → Int → BY → Int → Bool → Bool → Option Out) → Option Out
abbrev Tk110 := Int → Int → Int → Int → Int → Int → BY → Int → Bool → Bool → Option Out
def tok110 (Kt : Tk110) : Out → Option Out
 | ([.agg (.ss [.int .i64 r0_year, .int .i64 r0_month, .int .i64 r0_day, .int .i64 r0_hour, .int .i64 r0_minute, .int .i64 r0_second, .str r0_frac, .int .i64 r0_zone]), .s (.bool r1), .s (.bool r2)], none) => Kt r0_year r0_month r0_day r0_hour r0_minute r0_second r0_frac r0_zone r1 r2
 | _ => none
def adp110 (N : Ty110) : Fn1
 | none, [.s (.str a0)], K => N a0 (fun r0_year r0_month r0_day r0_hour r0_minute r0_second r0_frac r0_zone r1 r2 => K ([.agg (.ss [.int .i64 r0_year, .int .i64 r0_month, .int .i64 r0_day, .int .i64 r0_hour, .int .i64 r0_minute, .int .i64 r0_second, .str r0_frac, .int .i64 r0_zone]), .s (.bool r1), .s (.bool r2)], none))
 | _, _, _ => none
abbrev Ty111 := Int → Int → Int → Int → Int → Int → BY → Int → (Int → Int → Int → Int → Int → Int → BY → Int → Bool → Option Out) → Option Out
abbrev Tk111 := Int → Int → Int → Int → Int → Int → BY → Int → Bool → Option Out
def tok111 (Kt : Tk111) : Out → Option Out
 | ([.agg (.ss [.int .i64 r0_year, .int .i64 r0_month, .int .i64 r0_day, .int .i64 r0_hour, .int .i64 r0_minute, .int .i64 r0_second, .str r0_frac, .int .i64 r0_zone]), .s (.bool r1)], none) => Kt r0_year r0_month r0_day r0_hour r0_minute r0_second r0_frac r0_zone r1
 | _ => none
def adp111 (N : Ty111) : Fn1
 | none, [.agg (.ss [.int .i64 a0_year, .int .i64 a0_month, .int .i64 a0_day, .int .i64 a0_hour, .int .i64 a0_minute, .int .i64 a0_second, .str a0_frac, .int .i64 a0_zone])], K => N a0_year a0_month a0_day a0_hour a0_minute a0_second a0_frac a0_zone (fun r0_year r0_month r0_day r0_hour r0_minute r0_second r0_frac r0_zone r1 => K ([.agg (.ss [.int .i64 r0_year, .int .i64 r0_month, .int .i64 r0_day, .int .i64 r0_hour, .int .i64 r0_minute, .int .i64 r0_second, .str r0_frac, .int .i64 r0_zone]), .s (.bool r1)], none))
 | _, _, _ => none
abbrev Ty112 := Int → Int → (BY → Option Out) → Option Out
abbrev Tk112 := BY → Option Out
def tok112 (Kt : Tk112) : Out → Option Out
 | ([.s (.str r0)], none) => Kt r0
 | _ => none
def adp112 (N : Ty112) : Fn1
 | none, [.s (.int .i64 a0), .s (.int .i64 a1)], K => N a0 a1 (fun r0 => K ([.s (.str r0)], none))
 | _, _, _ => none
abbrev Ty113 := BY → Int → (BY → Option Out) → Option Out
abbrev Tk113 := BY → Option Out
def tok113 (Kt : Tk113) : Out → Option Out
 | ([.s (.str r0)], none) => Kt r0
 | _ => none
def adp113 (N : Ty113) : Fn1
 | none, [.s (.str a0), .s (.int .i64 a1)], K => N a0 a1 (fun r0 => K ([.s (.str r0)], none))
 | _, _, _ => none
abbrev Ty114 := BY → (BY → Bool → Option Out) → Option Out
abbrev Tk114 := BY → Bool → Option Out
def tok114 (Kt : Tk114) : Out → Option Out
 | ([.s (.str r0), .s (.bool r1)], none) => Kt r0 r1
 | _ => none
def adp114 (N : Ty114) : Fn1
 | none, [.s (.str a0)], K => N a0 (fun r0 r1 => K ([.s (.str r0), .s (.bool r1)], none))
 | _, _, _ => none
abbrev Ty115 := Bool → BY → (BY → Option Out) → Option Out
abbrev Tk115 := BY → Option Out
def tok115 (Kt : Tk115) : Out → Option Out
 | ([.s (.str r0)], none) => Kt r0
 | _ => none
def adp115 (N : Ty115) : Fn1
 | none, [.s (.bool a0), .s (.str a1)], K => N a0 a1 (fun r0 => K ([.s (.str r0)], none))
 | _, _, _ => none
abbrev Ty116 := BY → Int → (BY → Bool → Option Out) → Option Out
abbrev Tk116 := BY → Bool → Option Out
def tok116 (Kt : Tk116) : Out → Option Out
 | ([.s (.str r0), .s (.bool r1)], none) => Kt r0 r1
 | _ => none
def adp116 (N : Ty116) : Fn1
 | none, [.s (.str a0), .s (.int .i64 a1)], K => N a0 a1 (fun r0 r1 => K ([.s (.str r0), .s (.bool r1)], none))
 | _, _, _ => none
abbrev Ty117 := BY → (BY → Bool → Option Out) → Option Out
abbrev Tk117 := BY → Bool → Option Out
def tok117 (Kt : Tk117) : Out → Option Out
 | ([.s (.str r0), .s (.bool r1)], none) => Kt r0 r1
 | _ => none
def adp117 (N : Ty117) : Fn1
 | none, [.s (.str a0)], K => N a0 (fun r0 r1 => K ([.s (.str r0), .s (.bool r1)], none))
 | _, _, _ => none
abbrev Ty118 := BY → Bool → Bool → (Int → Bool → BY → BY → Bool → Option Out) → Option Out
abbrev Tk118 := Int → Bool → BY → BY → Bool → Option Out
def tok118 (Kt : Tk118) : Out → Option Out
 | ([.agg (.ss [.int .i64 r0_Kind, .bool r0_Neg, .str r0_Digits, .str r0_Exp]), .s (.bool r1)], none) => Kt r0_Kind r0_Neg r0_Digits r0_Exp r1
 | _ => none
def adp118 (N : Ty118) : Fn1
 | none, [.s (.str a0), .s (.bool a1), .s (.bool a2)], K => N a0 a1 a2 (fun r0_Kind r0_Neg r0_Digits r0_Exp r1 => K ([.agg (.ss [.int .i64 r0_Kind, .bool r0_Neg, .str r0_Digits, .str r0_Exp]), .s (.bool r1)], none))
 | _, _, _ => none
abbrev Ty119 := BY → Bool → (BY → Bool → Option Out) → Option Out
abbrev Tk119 := BY → Bool → Option Out
def tok119 (Kt : Tk119) : Out → Option Out
 | ([.s (.str r0), .s (.bool r1)], none) => Kt r0 r1
 | _ => none
def adp119 (N : Ty119) : Fn1
 | none, [.s (.str a0), .s (.bool a1)], K => N a0 a1 (fun r0 r1 => K ([.s (.str r0), .s (.bool r1)], none))
 | _, _, _ => none
abbrev Ty120 := Bool → BY → BY → BY → (Int → Bool → BY → BY → Bool → Option Out) → Option Out
abbrev Tk120 := Int → Bool → BY → BY → Bool → Option Out
def tok120 (Kt : Tk120) : Out → Option Out
 | ([.agg (.ss [.int .i64 r0_Kind, .bool r0_Neg, .str r0_Digits, .str r0_Exp]), .s (.bool r1)], none) => Kt r0_Kind r0_Neg r0_Digits r0_Exp r1
 | _ => none
def adp120 (N : Ty120) : Fn1
 | none, [.s (.bool a0), .s (.str a1), .s (.str a2), .s (.str a3)], K => N a0 a1 a2 a3 (fun r0_Kind r0_Neg r0_Digits r0_Exp r1 => K ([.agg (.ss [.int .i64 r0_Kind, .bool r0_Neg, .str r0_Digits, .str r0_Exp]), .s (.bool r1)], none))
 | _, _, _ => none
abbrev Ty121 := Int → Bool → BY → BY → (Bool → Option Out) → Option Out
abbrev Ty122 := BY → Int → (Int → Option Out) → Option Out
abbrev Tk122 := Int → Option Out
def tok122 (Kt : Tk122) : Out → Option Out
 | ([.s (.int .i64 r0)], none) => Kt r0
 | _ => none
def adp122 (N : Ty122) : Fn1
 | none, [.s (.str a0), .s (.int .u8 a1)], K => N a0 a1 (fun r0 => K ([.s (.int .i64 r0)], none))
 | _, _, _ => none
abbrev Ty123 := BY → Int → Int → Int → (Int → Int → Option Out) → Option Out
abbrev Tk123 := Int → Int → Option Out
def tok123 (Kt : Tk123) : Out → Option Out
 | ([.s (.int .i64 r0), .s (.int .i64 r1)], none) => Kt r0 r1
 | _ => none
def adp123 (N : Ty123) : Fn1
 | none, [.s (.str a0), .s (.int .i64 a1), .s (.int .i64 a2), .s (.int .i64 a3)], K => N a0 a1 a2 a3 (fun r0 r1 => K ([.s (.int .i64 r0), .s (.int .i64 r1)], none))
 | _, _, _ => none
abbrev Ty124 := BY → Int → BY → Int → Int → (Int → Int → Option Out) → Option Out
abbrev Tk124 := Int → Int → Option Out
def tok124 (Kt : Tk124) : Out → Option Out
 | ([.s (.int .i64 r0), .s (.int .i64 r1)], none) => Kt r0 r1
 | _ => none
def adp124 (N : Ty124) : Fn1
 | none, [.s (.str a0), .s (.int .i64 a1), .s (.str a2), .s (.int .i64 a3), .s (.int .i64 a4)], K => N a0 a1 a2 a3 a4 (fun r0 r1 => K ([.s (.int .i64 r0), .s (.int .i64 r1)], none))
 | _, _, _ => none
abbrev Ty125 := Int → Int → (Int → Option Out) → Option Out
abbrev Tk125 := Int → Option Out
def tok125 (Kt : Tk125) : Out → Option Out
 | ([.s (.int .i64 r0)], none) => Kt r0
 | _ => none
def adp125 (N : Ty125) : Fn1
 | none, [.s (.int .i64 a0), .s (.int .i64 a1)], K => N a0 a1 (fun r0 => K ([.s (.int .i64 r0)], none))
 | _, _, _ => none
abbrev Ty126 := BY → Int → BY → (Int → Option Out) → Option Out
abbrev Tk126 := Int → Option Out
def tok126 (Kt : Tk126) : Out → Option Out
 | ([.s (.int .i64 r0)], none) => Kt r0
 | _ => none
def adp126 (N : Ty126) : Fn1
 | none, [.s (.str a0), .s (.int .i64 a1), .s (.str a2)], K => N a0 a1 a2 (fun r0 => K ([.s (.int .i64 r0)], none))
 | _, _, _ => none
abbrev Ty127 := BY → Int → Int → Int → Int → (BY → Bool → Option Out) → Option Out
abbrev Tk127 := BY → Bool → Option Out
def tok127 (Kt : Tk127) : Out → Option Out
 | ([.s (.str r0), .s (.bool r1)], none) => Kt r0 r1
 | _ => none
def adp127 (N : Ty127) : Fn1
 | none, [.s (.str a0), .s (.int .i64 a1), .s (.int .i64 a2), .s (.int .i64 a3), .s (.int .i64 a4)], K => N a0 a1 a2 a3 a4 (fun r0 r1 => K ([.s (.str r0), .s (.bool r1)], none))
 | _, _, _ => none
abbrev Ty128 := BY → ((List Int) → Bool → Option Out) → Option Out
abbrev Ty129 := BY → (BY → Option Out) → Option Out
abbrev Ty145 := Int → (Int → Option Out) → Option Out
abbrev Tk145 := Int → Option Out
def tok145 (Kt : Tk145) : Out → Option Out
 | ([.s (.int .i64 r0)], none) => Kt r0
 | _ => none
def adp145 (N : Ty145) : Fn1
 | none, [.s (.int .u8 a0)], K => N a0 (fun r0 => K ([.s (.int .i64 r0)], none))
 | _, _, _ => none
abbrev Ty146 := BY → Int → Int → (BY → Option Out) → Option Out
abbrev Tk146 := BY → Option Out
def tok146 (Kt : Tk146) : Out → Option Out
 | ([.s (.str r0)], none) => Kt r0
 | _ => none
def adp146 (N : Ty146) : Fn1
 | none, [.s (.str a0), .s (.int .i64 a1), .s (.int .i64 a2)], K => N a0 a1 a2 (fun r0 => K ([.s (.str r0)], none))
 | _, _, _ => none
abbrev Ty147 := BY → (Bool → Option Out) → Option Out
abbrev Tk147 := Bool → Option Out
def tok147 (Kt : Tk147) : Out → Option Out
 | ([.s (.bool r0)], none) => Kt r0
 | _ => none
def adp147 (N : Ty147) : Fn1
 | none, [.s (.str a0)], K => N a0 (fun r0 => K ([.s (.bool r0)], none))
 | _, _, _ => none
abbrev Ty148 := BY → BY → (BY → Option Out) → Option Out
abbrev Tk148 := BY → Option Out
def adp148 (N : Ty148) : Fn1
 | none, [.s (.str a0), .s (.str a1)], K => N a0 a1 (fun r0 => K ([.s (.str r0)], none))
 | _, _, _ => none
abbrev Ty149 := BY → (Bool → Option Out) → Option Out
abbrev Tk149 := Bool → Option Out
def tok149 (Kt : Tk149) : Out → Option Out
 | ([.s (.bool r0)], none) => Kt r0
 | _ => none
def adp149 (N : Ty149) : Fn1
 | none, [.s (.str a0)], K => N a0 (fun r0 => K ([.s (.bool r0)], none))
 | _, _, _ => none
abbrev Ty150 := BY → (Bool → Option Out) → Option Out
abbrev Tk150 := Bool → Option Out
def tok150 (Kt : Tk150) : Out → Option Out
 | ([.s (.bool r0)], none) => Kt r0
 | _ => none
def adp150 (N : Ty150) : Fn1
 | none, [.s (.str a0)], K => N a0 (fun r0 => K ([.s (.bool r0)], none))
 | _, _, _ => none
abbrev Ty151 := BY → BY → (BY → Option Out) → Option Out
abbrev Tk151 := BY → Option Out
def adp151 (N : Ty151) : Fn1
 | none, [.s (.str a0), .s (.str a1)], K => N a0 a1 (fun r0 => K ([.s (.str r0)], none))
 | _, _, _ => none
abbrev Ty152 := BY → Int → (BY → Option Out) → Option Out
abbrev Tk152 := BY → Option Out
def tok152 (Kt : Tk152) : Out → Option Out
 | ([.s (.str r0)], none) => Kt r0
 | _ => none
def adp152 (N : Ty152) : Fn1
 | none, [.s (.str a0), .s (.int .i64 a1)], K => N a0 a1 (fun r0 => K ([.s (.str r0)], none))
 | _, _, _ => none
abbrev Ty153 := Bool → (Int → Bool → BY → BY → Option Out) → Option Out
abbrev Tk153 := Int → Bool → BY → BY → Option Out
def tok153 (Kt : Tk153) : Out → Option Out
 | ([.agg (.ss [.int .i64 r0_Kind, .bool r0_Neg, .str r0_Digits, .str r0_Exp])], none) => Kt r0_Kind r0_Neg r0_Digits r0_Exp
 | _ => none
def adp153 (N : Ty153) : Fn1
 | none, [.s (.bool a0)], K => N a0 (fun r0_Kind r0_Neg r0_Digits r0_Exp => K ([.agg (.ss [.int .i64 r0_Kind, .bool r0_Neg, .str r0_Digits, .str r0_Exp])], none))
 | _, _, _ => none
abbrev Ty154 := BY → (Int → BY → Int → Option Out) → Option Out
abbrev Tk154 := Int → BY → Int → Option Out
def tok154 (Kt : Tk154) : Out → Option Out
 | ([.s (.int .i64 r0), .s (.str r1), .s (.int .i64 r2)], none) => Kt r0 r1 r2
 | _ => none
def adp154 (N : Ty154) : Fn1
 | none, [.s (.str a0)], K => N a0 (fun r0 r1 r2 => K ([.s (.int .i64 r0), .s (.str r1), .s (.int .i64 r2)], none))
 | _, _, _ => none
abbrev Ty155 := BY → Int → (Int → Option Out) → Option Out
def adp155 (N : Ty155) : Fn1
 | none, [.s (.str a0), .s (.int .u8 a1)], K => N a0 a1 (fun r0 => K ([.s (.int .i64 r0)], none))
 | _, _, _ => none
abbrev Ty158 := Int → (Bool → Option Out) → Option Out
abbrev Tk158 := Bool → Option Out
def tok158 (Kt : Tk158) : Out → Option Out
 | ([.s (.bool r0)], none) => Kt r0
 | _ => none
def adp158 (N : Ty158) : Fn1
 | none, [.s (.int .i64 a0)], K => N a0 (fun r0 => K ([.s (.bool r0)], none))
 | _, _, _ => none
abbrev Ty159 := BY → Bool → (Int → Option Out) → Option Out
abbrev Tk159 := Int → Option Out
def tok159 (Kt : Tk159) : Out → Option Out
 | ([.s (.int .i64 r0)], none) => Kt r0
 | _ => none
def adp159 (N : Ty159) : Fn1
 | none, [.s (.str a0), .s (.bool a1)], K => N a0 a1 (fun r0 => K ([.s (.int .i64 r0)], none))
 | _, _, _ => none
abbrev Ty160 := Int → (Bool → Option Out) → Option Out
abbrev Tk160 := Bool → Option Out
def tok160 (Kt : Tk160) : Out → Option Out
 | ([.s (.bool r0)], none) => Kt r0
 | _ => none
def adp160 (N : Ty160) : Fn1
 | none, [.s (.int .u8 a0)], K => N a0 (fun r0 => K ([.s (.bool r0)], none))
 | _, _, _ => none
abbrev Ty161 := BY → (Int → Option Out) → Option Out
abbrev Tk161 := Int → Option Out
def tok161 (Kt : Tk161) : Out → Option Out
 | ([.s (.int .i64 r0)], none) => Kt r0
 | _ => none
def adp161 (N : Ty161) : Fn1
 | none, [.s (.str a0)], K => N a0 (fun r0 => K ([.s (.int .i64 r0)], none))
 | _, _, _ => none
abbrev Ty162 := BY → (Int → Option Out) → Option Out
abbrev Tk162 := Int → Option Out
def tok162 (Kt : Tk162) : Out → Option Out
 | ([.s (.int .i64 r0)], none) => Kt r0
 | _ => none
def adp162 (N : Ty162) : Fn1
 | none, [.s (.str a0)], K => N a0 (fun r0 => K ([.s (.int .i64 r0)], none))
 | _, _, _ => none
abbrev Ty163 := BY → BY → (BY → Option Out) → Option Out
abbrev Tk163 := BY → Option Out
def adp163 (N : Ty163) : Fn1
 | none, [.s (.str a0), .s (.str a1)], K => N a0 a1 (fun r0 => K ([.s (.str r0)], none))
 | _, _, _ => none
abbrev Ty164 := BY → Bool → Int → Int → (Int → BY → Bool → Option Out) → Option Out
abbrev Tk164 := Int → BY → Bool → Option Out
def tok164 (Kt : Tk164) : Out → Option Out
 | ([.s (.int .i64 r0)], some (.ss [.str o_s, .bool o_bad])) => Kt r0 o_s o_bad
 | _ => none
def adp164 (N : Ty164) : Fn1
 | some (164, (.ss [.str q_s, .bool q_bad])), [.s (.int .i64 a1), .s (.int .i64 a2)], K => N q_s q_bad a1 a2 (fun r0 o_s o_bad => K ([.s (.int .i64 r0)], some (.ss [.str o_s, .bool o_bad])))
 | _, _, _ => none
abbrev Ty165 := BY → Bool → BY → (Int → BY → Bool → Option Out) → Option Out
abbrev Tk165 := Int → BY → Bool → Option Out
def tok165 (Kt : Tk165) : Out → Option Out
 | ([.s (.int .u8 r0)], some (.ss [.str o_s, .bool o_bad])) => Kt r0 o_s o_bad
 | _ => none
def adp165 (N : Ty165) : Fn1
 | some (164, (.ss [.str q_s, .bool q_bad])), [.s (.str a1)], K => N q_s q_bad a1 (fun r0 o_s o_bad => K ([.s (.int .u8 r0)], some (.ss [.str o_s, .bool o_bad])))
 | _, _, _ => none
abbrev Ty166 := BY → Bool → BY → (Int → BY → Bool → Option Out) → Option Out
abbrev Tk166 := Int → BY → Bool → Option Out
def tok166 (Kt : Tk166) : Out → Option Out
 | ([.s (.int .u8 r0)], some (.ss [.str o_s, .bool o_bad])) => Kt r0 o_s o_bad
 | _ => none
def adp166 (N : Ty166) : Fn1
 | some (164, (.ss [.str q_s, .bool q_bad])), [.s (.str a1)], K => N q_s q_bad a1 (fun r0 o_s o_bad => K ([.s (.int .u8 r0)], some (.ss [.str o_s, .bool o_bad])))
 | _, _, _ => none
abbrev Ty167 := BY → Bool → BY → (BY → BY → Bool → Option Out) → Option Out
abbrev Tk167 := BY → BY → Bool → Option Out
def tok167 (Kt : Tk167) : Out → Option Out
 | ([.s (.str r0)], some (.ss [.str o_s, .bool o_bad])) => Kt r0 o_s o_bad
 | _ => none
def adp167 (N : Ty167) : Fn1
 | some (164, (.ss [.str q_s, .bool q_bad])), [.s (.str a1)], K => N q_s q_bad a1 (fun r0 o_s o_bad => K ([.s (.str r0)], some (.ss [.str o_s, .bool o_bad])))
 | _, _, _ => none
abbrev Ty168 := BY → Bool → (Int → BY → Bool → Option Out) → Option Out
abbrev Tk168 := Int → BY → Bool → Option Out
def tok168 (Kt : Tk168) : Out → Option Out
 | ([.s (.int .i64 r0)], some (.ss [.str o_s, .bool o_bad])) => Kt r0 o_s o_bad
 | _ => none
def adp168 (N : Ty168) : Fn1
 | some (164, (.ss [.str q_s, .bool q_bad])), [], K => N q_s q_bad (fun r0 o_s o_bad => K ([.s (.int .i64 r0)], some (.ss [.str o_s, .bool o_bad])))
 | _, _, _ => none
abbrev Ty169 := Int → Int → Int → Int → Int → Int → BY → Int → (Bool → Option Out) → Option Out
abbrev Tk169 := Bool → Option Out
def tok169 (Kt : Tk169) : Out → Option Out
 | ([.s (.bool r0)], none) => Kt r0
 | _ => none
def adp169 (N : Ty169) : Fn1
 | none, [.agg (.ss [.int .i64 a0_year, .int .i64 a0_month, .int .i64 a0_day, .int .i64 a0_hour, .int .i64 a0_minute, .int .i64 a0_second, .str a0_frac, .int .i64 a0_zone])], K => N a0_year a0_month a0_day a0_hour a0_minute a0_second a0_frac a0_zone (fun r0 => K ([.s (.bool r0)], none))
 | _, _, _ => none
abbrev Ty170 := Int → Int → (Int → Option Out) → Option Out
abbrev Tk170 := Int → Option Out
def tok170 (Kt : Tk170) : Out → Option Out
 | ([.s (.int .i64 r0)], none) => Kt r0
 | _ => none
def adp170 (N : Ty170) : Fn1
 | none, [.s (.int .i64 a0), .s (.int .i64 a1)], K => N a0 a1 (fun r0 => K ([.s (.int .i64 r0)], none))
 | _, _, _ => none
abbrev Ty171 := Int → (BY → Option Out) → Option Out
def adp171 (N : Ty171) : Fn1
 | none, [.s (.int .i64 a0)], K => N a0 (fun r0 => K ([.s (.str r0)], none))
 | _, _, _ => none
abbrev Ty172 := BY → Int → (BY → Option Out) → Option Out
def adp172 (N : Ty172) : Fn1
 | none, [.s (.str a0), .s (.int .i64 a1)], K => N a0 a1 (fun r0 => K ([.s (.str r0)], none))
 | _, _, _ => none
abbrev Ty173 := BY → Int → Int → (BY → Option Out) → Option Out
abbrev Tk173 := BY → Option Out
def tok173 (Kt : Tk173) : Out → Option Out
 | ([.s (.str r0)], none) => Kt r0
 | _ => none
def adp173 (N : Ty173) : Fn1
 | none, [.s (.str a0), .s (.int .i64 a1), .s (.int .i64 a2)], K => N a0 a1 a2 (fun r0 => K ([.s (.str r0)], none))
 | _, _, _ => none
abbrev Ty174 := BY → (Bool → Option Out) → Option Out
abbrev Tk174 := Bool → Option Out
def tok174 (Kt : Tk174) : Out → Option Out
 | ([.s (.bool r0)], none) => Kt r0
 | _ => none
def adp174 (N : Ty174) : Fn1
 | none, [.s (.str a0)], K => N a0 (fun r0 => K ([.s (.bool r0)], none))
 | _, _, _ => none
abbrev Ty175 := BY → Int → Int → (BY → Option Out) → Option Out
abbrev Tk175 := BY → Option Out
def tok175 (Kt : Tk175) : Out → Option Out
 | ([.s (.str r0)], none) => Kt r0
 | _ => none
def adp175 (N : Ty175) : Fn1
 | none, [.s (.str a0), .s (.int .i64 a1), .s (.int .i64 a2)], K => N a0 a1 a2 (fun r0 => K ([.s (.str r0)], none))
 | _, _, _ => none
abbrev Ty176 := BY → (Bool → Option Out) → Option Out
abbrev Tk176 := Bool → Option Out
def tok176 (Kt : Tk176) : Out → Option Out
 | ([.s (.bool r0)], none) => Kt r0
 | _ => none
def adp176 (N : Ty176) : Fn1
 | none, [.s (.str a0)], K => N a0 (fun r0 => K ([.s (.bool r0)], none))
 | _, _, _ => none
abbrev Ty177 := BY → Int → (BY → Option Out) → Option Out
abbrev Tk177 := BY → Option Out
def tok177 (Kt : Tk177) : Out → Option Out
 | ([.s (.str r0)], none) => Kt r0
 | _ => none
def adp177 (N : Ty177) : Fn1
 | none, [.s (.str a0), .s (.int .i64 a1)], K => N a0 a1 (fun r0 => K ([.s (.str r0)], none))
 | _, _, _ => none
abbrev Ty178 := BY → Int → (Int → Bool → Option Out) → Option Out
abbrev Tk178 := Int → Bool → Option Out
def tok178 (Kt : Tk178) : Out → Option Out
 | ([.s (.int .i64 r0), .s (.bool r1)], none) => Kt r0 r1
 | _ => none
def adp178 (N : Ty178) : Fn1
 | none, [.s (.str a0), .s (.int .i64 a1)], K => N a0 a1 (fun r0 r1 => K ([.s (.int .i64 r0), .s (.bool r1)], none))
 | _, _, _ => none
abbrev Ty179 := Int → Int → Int → Int → (BY → Bool → Option Out) → Option Out
abbrev Tk179 := BY → Bool → Option Out
def tok179 (Kt : Tk179) : Out → Option Out
 | ([.s (.str r0), .s (.bool r1)], none) => Kt r0 r1
 | _ => none
def adp179 (N : Ty179) : Fn1
 | none, [.s (.int .i64 a0), .s (.int .i64 a1), .s (.int .i64 a2), .s (.int .i64 a3)], K => N a0 a1 a2 a3 (fun r0 r1 => K ([.s (.str r0), .s (.bool r1)], none))
 | _, _, _ => none
abbrev Ty180 := Int → (BY → Option Out) → Option Out
abbrev Tk180 := BY → Option Out
def tok180 (Kt : Tk180) : Out → Option Out
 | ([.s (.str r0)], none) => Kt r0
 | _ => none
def adp180 (N : Ty180) : Fn1
 | none, [.s (.int .i64 a0)], K => N a0 (fun r0 => K ([.s (.str r0)], none))
 | _, _, _ => none
abbrev Ty181 := Int → (Int → Option Out) → Option Out
abbrev Ty182 := (List Int) → (BY → Option Out) → Option Out
abbrev Tk182 := BY → Option Out
abbrev Ty202 := BY → (Bool → BY → Option Out) → Option Out
abbrev Tk202 := Bool → BY → Option Out
def tok202 (Kt : Tk202) : Out → Option Out
 | ([.s (.bool r0), .s (.str r1)], none) => Kt r0 r1
 | _ => none
def adp202 (N : Ty202) : Fn1
 | none, [.s (.str a0)], K => N a0 (fun r0 r1 => K ([.s (.bool r0), .s (.str r1)], none))
 | _, _, _ => none
abbrev Ty206 := BY → BY → (Int → Option Out) → Option Out
abbrev Tk206 := Int → Option Out
def tok206 (Kt : Tk206) : Out → Option Out
 | ([.s (.int .i64 r0)], none) => Kt r0
 | _ => none
def adp206 (N : Ty206) : Fn1
 | none, [.s (.str a0), .s (.str a1)], K => N a0 a1 (fun r0 => K ([.s (.int .i64 r0)], none))
 | _, _, _ => none
abbrev Ty207 := BY → BY → (BY → Option Out) → Option Out
abbrev Tk207 := BY → Option Out
def tok207 (Kt : Tk207) : Out → Option Out
 | ([.s (.str r0)], none) => Kt r0
 | _ => none
def adp207 (N : Ty207) : Fn1
 | none, [.s (.str a0), .s (.str a1)], K => N a0 a1 (fun r0 => K ([.s (.str r0)], none))
 | _, _, _ => none
abbrev Ty213 := BY → BY → (BY → Option Out) → Option Out
abbrev Tk213 := BY → Option Out
def tok213 (Kt : Tk213) : Out → Option Out
 | ([.s (.str r0)], none) => Kt r0
 | _ => none
def adp213 (N : Ty213) : Fn1
 | none, [.s (.str a0), .s (.str a1)], K => N a0 a1 (fun r0 => K ([.s (.str r0)], none))
 | _, _, _ => none
abbrev Ty217 := BY → BY → (Int → Option Out) → Option Out
abbrev Tk217 := Int → Option Out
def tok217 (Kt : Tk217) : Out → Option Out
 | ([.s (.int .i64 r0)], none) => Kt r0
 | _ => none
def adp217 (N : Ty217) : Fn1
 | none, [.s (.str a0), .s (.str a1)], K => N a0 a1 (fun r0 => K ([.s (.int .i64 r0)], none))
 | _, _, _ => none
abbrev Ty218 := BY → BY → (BY → Option Out) → Option Out
abbrev Tk218 := BY → Option Out
def tok218 (Kt : Tk218) : Out → Option Out
 | ([.s (.str r0)], none) => Kt r0
 | _ => none
def adp218 (N : Ty218) : Fn1
 | none, [.s (.str a0), .s (.str a1)], K => N a0 a1 (fun r0 => K ([.s (.str r0)], none))
 | _, _, _ => none
abbrev Ty219 := Int → Int → Int → (BY → Option Out) → Option Out
abbrev Tk219 := BY → Option Out
def tok219 (Kt : Tk219) : Out → Option Out
 | ([.s (.str r0)], none) => Kt r0
 | _ => none
def adp219 (N : Ty219) : Fn1
 | none, [.s (.int .i64 a0), .s (.int .i64 a1), .s (.int .i64 a2)], K => N a0 a1 a2 (fun r0 => K ([.s (.str r0)], none))
 | _, _, _ => none
abbrev Ty230 := BY → BY → (BY → Bool → Option Out) → Option Out
def adp230 (N : Ty230) : Fn1
 | none, [.s (.str a0), .s (.str a1)], K => N a0 a1 (fun r0 r1 => K ([.s (.str r0), .s (.bool r1)], none))
 | _, _, _ => none
abbrev Ty232 := BY → BY → (Int → Option Out) → Option Out
def adp232 (N : Ty232) : Fn1
 | none, [.s (.str a0), .s (.str a1)], K => N a0 a1 (fun r0 => K ([.s (.int .i64 r0)], none))
 | _, _, _ => none
abbrev Ty241 := Int → (BY → Option Out) → Option Out
def adp241 (N : Ty241) : Fn1
 | none, [.s (.int .i64 a0)], K => N a0 (fun r0 => K ([.s (.str r0)], none))
 | _, _, _ => none
abbrev Ty242 := Int → (Int → Option Out) → Option Out
def adp242 (N : Ty242) : Fn1
 | none, [.s (.int .u64 a0)], K => N a0 (fun r0 => K ([.s (.int .i64 r0)], none))
 | _, _, _ => none
abbrev Ty244 := (List Int) → Int → Int → Bool → Bool → ((List Int) → BY → Option Out) → Option Out
def adq244 (N : Ty244) : Fn1
 | none, [.ro (.ints .u8 a0), .s (.int .u64 a1), .s (.int .i64 a2), .s (.bool a3), .s (.bool a4)], K => N a0 a1 a2 a3 a4 (fun r0 r1 => K ([.own (.ints .u8 r0), .s (.str r1)], none))
 | _, _, _ => none
def adp244 (N : Ty244) : Fn1 := fun rc cs K => adq244 N rc (nrm [some (.ro (.ints .u8 [])), none, none, none, none] cs) K
abbrev TyO197 := (List Int) → Int → Int → ((List Int) → Option Out) → Option Out
def adO197 (N : TyO197) : Fn1
 | none, [.own (.ints .u8 a0), .s (.int .i64 a1), .s (.int .i64 a2)], K => N a0 a1 a2 (fun r0 => K ([.own (.ints .u8 r0)], none))
 | _, _, _ => none
abbrev TyO243 := (List Int) → Int → ((List Int) → Option Out) → Option Out
def adO243 (N : TyO243) : Fn1
 | none, [.own (.ints .u8 a0), .s (.int .u64 a1)], K => N a0 a1 (fun y => K ([], some (.ints .u8 y)))
 | _, _, _ => none
abbrev TyO245 := (List Int) → Int → Int → ((List Int) → Option Out) → Option Out
abbrev TkO245 := (List Int) → Option Out
def tokO245 (Kt : TkO245) : Out → Option Out
 | ([.own (.ints .u8 r0)], none) => Kt r0
 | _ => none
def adO245 (N : TyO245) : Fn1
 | none, [.own (.ints .u8 a0), .s (.int .u64 a1), .s (.int .i64 a2)], K => N a0 a1 a2 (fun r0 => K ([.own (.ints .u8 r0)], none))
 | _, _, _ => none
end
end Go.Proofs.YtffmgholjdfcnaaGreatDoor
set_option maxRecDepth 100000
set_option linter.unusedVariables false
namespace Go.Proofs.YtffmgholjdfcnaaGreatDoor
open Go Go.Proofs AM
open Go.IntKind (i64 u8)
noncomputable section
abbrev Ty7 := Bool → BY → Int → Bool → Bool → (List Int) → (Bool → Option Out) → Option Out
abbrev Tk7 := Bool → Option Out
def tok7 (Kt : Tk7) : Out → Option Out
 | ([.s (.bool r0)], none) => Kt r0
 | _ => none
def adq7 (N : Ty7) : Fn1
 | none, [.s (.bool a0), .s (.str a1), .s (.int .u8 a2), .s (.bool a3), .s (.bool a4), .ro (.ints .u8 a5)], K => N a0 a1 a2 a3 a4 a5 (fun r0 => K ([.s (.bool r0)], none))
 | _, _, _ => none
def adp7 (N : Ty7) : Fn1 := fun rc cs K => adq7 N rc (nrm [none, none, none, none, none, some (.ro (.ints .u8 []))] cs) K
abbrev Ty8 := Bool → BY → BY → Bool → (Bool → Option Out) → Option Out
abbrev Tk8 := Bool → Option Out
def tok8 (Kt : Tk8) : Out → Option Out
 | ([.s (.bool r0)], none) => Kt r0
 | _ => none
def adp8 (N : Ty8) : Fn1
 | none, [.s (.bool a0), .s (.str a1), .s (.str a2), .s (.bool a3)], K => N a0 a1 a2 a3 (fun r0 => K ([.s (.bool r0)], none))
 | _, _, _ => none
abbrev Ty9 := Bool → BY → (List Int) → Int → (Bool → Option Out) → Option Out
abbrev Tk9 := Bool → Option Out
def tok9 (Kt : Tk9) : Out → Option Out
 | ([.s (.bool r0)], none) => Kt r0
 | _ => none
def adq9 (N : Ty9) : Fn1
 | none, [.s (.bool a0), .s (.str a1), .ro (.ints .u8 a2), .s (.int .u8 a3)], K => N a0 a1 a2 a3 (fun r0 => K ([.s (.bool r0)], none))
 | _, _, _ => none
def adp9 (N : Ty9) : Fn1 := fun rc cs K => adq9 N rc (nrm [none, none, some (.ro (.ints .u8 [])), none] cs) K
abbrev Ty22 := (Bool → Option Out) → Option Out
abbrev Tk22 := Bool → Option Out
def tok22 (Kt : Tk22) : Out → Option Out
 | ([.s (.bool r0)], none) => Kt r0
 | _ => none
def adp22 (N : Ty22) : Fn1
 | none, [], K => N (fun r0 => K ([.s (.bool r0)], none))
 | _, _, _ => none
abbrev Ty23 := Int → (BY → Option Out) → Option Out
abbrev Tk23 := BY → Option Out
def tok23 (Kt : Tk23) : Out → Option Out
 | ([.s (.str r0)], none) => Kt r0
 | _ => none
def adp23 (N : Ty23) : Fn1
 | none, [.s (.int .u8 a0)], K => N a0 (fun r0 => K ([.s (.str r0)], none))
 | _, _, _ => none
abbrev Ty24 := (List Int) → (BY → Option Out) → Option Out
abbrev Tk24 := BY → Option Out
def tok24 (Kt : Tk24) : Out → Option Out
 | ([.s (.str r0)], none) => Kt r0
 | _ => none
def adq24 (N : Ty24) : Fn1
 | none, [.ro (.ints .u8 a0)], K => N a0 (fun r0 => K ([.s (.str r0)], none))
 | _, _, _ => none
def adp24 (N : Ty24) : Fn1 := fun rc cs K => adq24 N rc (nrm [some (.ro (.ints .u8 []))] cs) K
abbrev Ty25 := Int → BY → BY → Bool → (BY → BY → Bool → Option Out) → Option Out
abbrev Tk25 := BY → BY → Bool → Option Out
def tok25 (Kt : Tk25) : Out → Option Out
 | ([.agg (.ss [.str r0_Tag, .str r0_Text]), .s (.bool r1)], none) => Kt r0_Tag r0_Text r1
 | _ => none
def adp25 (N : Ty25) : Fn1
 | none, [.s (.int .i64 a0), .s (.str a1), .s (.str a2), .s (.bool a3)], K => N a0 a1 a2 a3 (fun r0_Tag r0_Text r1 => K ([.agg (.ss [.str r0_Tag, .str r0_Text]), .s (.bool r1)], none))
 | _, _, _ => none
abbrev Ty26 := Int → BY → BY → Bool → (BY → BY → Bool → Option Out) → Option Out
abbrev Ty27 := BY → (Bool → Option Out) → Option Out
abbrev Tk27 := Bool → Option Out
def tok27 (Kt : Tk27) : Out → Option Out
 | ([.s (.bool r0)], none) => Kt r0
 | _ => none
def adp27 (N : Ty27) : Fn1
 | none, [.s (.str a0)], K => N a0 (fun r0 => K ([.s (.bool r0)], none))
 | _, _, _ => none
abbrev Ty28 := BY → (Bool → Option Out) → Option Out
abbrev Ty46 := Int → BY → BY → (BY → Bool → Option Out) → Option Out
abbrev Tk46 := BY → Bool → Option Out
def tok46 (Kt : Tk46) : Out → Option Out
 | ([.s (.str r0), .s (.bool r1)], none) => Kt r0 r1
 | _ => none
def adp46 (N : Ty46) : Fn1
 | none, [.s (.int .i64 a0), .s (.str a1), .s (.str a2)], K => N a0 a1 a2 (fun r0 r1 => K ([.s (.str r0), .s (.bool r1)], none))
 | _, _, _ => none
abbrev Ty78 := Int → BY → (BY → Bool → Option Out) → Option Out
abbrev Tk78 := BY → Bool → Option Out
def tok78 (Kt : Tk78) : Out → Option Out
 | ([.s (.str r0), .s (.bool r1)], none) => Kt r0 r1
 | _ => none
def adp78 (N : Ty78) : Fn1
 | none, [.s (.int .i64 a0), .s (.str a1)], K => N a0 a1 (fun r0 r1 => K ([.s (.str r0), .s (.bool r1)], none))
 | _, _, _ => none
abbrev Ty79 := Int → BY → (BY → Bool → Option Out) → Option Out
abbrev Tk79 := BY → Bool → Option Out
def tok79 (Kt : Tk79) : Out → Option Out
 | ([.s (.str r0), .s (.bool r1)], none) => Kt r0 r1
 | _ => none
def adp79 (N : Ty79) : Fn1
 | none, [.s (.int .i64 a0), .s (.str a1)], K => N a0 a1 (fun r0 r1 => K ([.s (.str r0), .s (.bool r1)], none))
 | _, _, _ => none
abbrev Ty80 := BY → (BY → Bool → Option Out) → Option Out
abbrev Tk80 := BY → Bool → Option Out
def tok80 (Kt : Tk80) : Out → Option Out
 | ([.s (.str r0), .s (.bool r1)], none) => Kt r0 r1
 | _ => none
def adp80 (N : Ty80) : Fn1
 | none, [.s (.str a0)], K => N a0 (fun r0 r1 => K ([.s (.str r0), .s (.bool r1)], none))
 | _, _, _ => none
abbrev Ty130 := Bool → (BY → Option Out) → Option Out
abbrev Tk130 := BY → Option Out
def tok130 (Kt : Tk130) : Out → Option Out
 | ([.s (.str r0)], none) => Kt r0
 | _ => none
def adp130 (N : Ty130) : Fn1
 | none, [.s (.bool a0)], K => N a0 (fun r0 => K ([.s (.str r0)], none))
 | _, _, _ => none
abbrev Ty131 := BY → ((List Int) → Bool → Option Out) → Option Out
abbrev Tk131 := (List Int) → Bool → Option Out
def tok131 (Kt : Tk131) : Out → Option Out
 | ([.own (.ints .u8 r0), .s (.bool r1)], none) => Kt r0 r1
 | _ => none
def adp131 (N : Ty131) : Fn1
 | none, [.s (.str a0)], K => N a0 (fun r0 r1 => K ([.own (.ints .u8 r0), .s (.bool r1)], none))
 | _, _, _ => none
abbrev Ty132 := (List Int) → (BY → Option Out) → Option Out
abbrev Tk132 := BY → Option Out
def tok132 (Kt : Tk132) : Out → Option Out
 | ([.s (.str r0)], none) => Kt r0
 | _ => none
def adq132 (N : Ty132) : Fn1
 | none, [.ro (.ints .u8 a0)], K => N a0 (fun r0 => K ([.s (.str r0)], none))
 | _, _, _ => none
def adp132 (N : Ty132) : Fn1 := fun rc cs K => adq132 N rc (nrm [some (.ro (.ints .u8 []))] cs) K
abbrev Ty183 := Bool → (BY → Option Out) → Option Out
abbrev Tk183 := BY → Option Out
def tok183 (Kt : Tk183) : Out → Option Out
 | ([.s (.str r0)], none) => Kt r0
 | _ => none
def adp183 (N : Ty183) : Fn1
 | none, [.s (.bool a0)], K => N a0 (fun r0 => K ([.s (.str r0)], none))
 | _, _, _ => none
abbrev Ty184 := BY → (BY → Option Out) → Option Out
def adp184 (N : Ty184) : Fn1
 | none, [.s (.str a0)], K => N a0 (fun r0 => K ([.s (.str r0)], none))
 | _, _, _ => none
abbrev Ty185 := ((List Int) → Option Out) → Option Out
abbrev Tk185 := (List Int) → Option Out
def tok185 (Kt : Tk185) : Out → Option Out
 | ([.agg (.ints .u8 r0)], none) => Kt r0
 | _ => none
def adp185 (N : Ty185) : Fn1
 | none, [], K => N (fun r0 => K ([.agg (.ints .u8 r0)], none))
 | _, _, _ => none
abbrev Ty186 := ((List Int) → Option Out) → Option Out
abbrev Tk186 := (List Int) → Option Out
def tok186 (Kt : Tk186) : Out → Option Out
 | ([.agg (.ints .u8 r0)], none) => Kt r0
 | _ => none
def adp186 (N : Ty186) : Fn1
 | none, [], K => N (fun r0 => K ([.agg (.ints .u8 r0)], none))
 | _, _, _ => none
end
end Go.Proofs.YtffmgholjdfcnaaGreatDoor
namespace Go.Proofs.YtffmgholjdfcnaaGreatDoor
open Go AM
open Go.IntKind (i64 u8)
noncomputable section
def whole (b : Bool) (x : Option Out) : Option Out := match (some true : Option Bool), b with | some true, true => x | _, _ => none
theorem whole_true (x : Option Out) : whole true x = x := rfl
end
end Go.Proofs.YtffmgholjdfcnaaGreatDoor
