/- Pieces of the program's functions, printed by gen.py (a program of this session's own), and the equations that the kernel finds. -/
import Derived.Test.YtnfjggagenmkjaaDoorAmU
import Derived.Test.YtnfjggagenmkjaaDoorProg
set_option maxRecDepth 100000
set_option linter.unusedVariables false
namespace Go.Proofs.YtnfjggagenmkjaaDoor
open Go Go.Proofs AM
/-! targum/targumlaw10.StampBack -/
abbrev Ty3 := (List UInt8) → Int → Int → Int → (Bool → Option Out) → Option Out
abbrev Tk3 := Bool → Option Out
def tok3 (Kt : Tk3) : Out → Option Out
  | ([.s (.bool r0)], none) => Kt r0
  | _ => none
def adp3 (N : Ty3) : Fn1
  | none, [.s (.str a0), .s (.int .u16 a1), .s (.int .u8 a2), .s (.int .u8 a3)], K => N a0 a1 a2 a3 (fun r0 => K ([.s (.bool r0)], none))
  | _, _, _ => none

/-! targum/targumlaw10.StampZones -/
abbrev Ty4 := Int → Int → Int → Int → Int → Int → Int → Int → (Bool → Option Out) → Option Out
abbrev Tk4 := Bool → Option Out
def tok4 (Kt : Tk4) : Out → Option Out
  | ([.s (.bool r0)], none) => Kt r0
  | _ => none
def adp4 (N : Ty4) : Fn1
  | none, [.s (.int .u16 a0), .s (.int .u8 a1), .s (.int .u8 a2), .s (.int .u8 a3), .s (.int .u8 a4), .s (.int .u8 a5), .s (.int .i16 a6), .s (.int .u8 a7)], K => N a0 a1 a2 a3 a4 a5 a6 a7 (fun r0 => K ([.s (.bool r0)], none))
  | _, _, _ => none

/-! targum/targumlaw10.StampDays -/
abbrev Ty5 := Int → Int → Int → (Bool → Option Out) → Option Out
abbrev Tk5 := Bool → Option Out
def tok5 (Kt : Tk5) : Out → Option Out
  | ([.s (.bool r0)], none) => Kt r0
  | _ => none
def adp5 (N : Ty5) : Fn1
  | none, [.s (.int .u16 a0), .s (.int .u8 a1), .s (.int .u8 a2)], K => N a0 a1 a2 (fun r0 => K ([.s (.bool r0)], none))
  | _, _, _ => none

/-! targum/targumlaw10.StampTells -/
abbrev Ty6 := (List UInt8) → (List Int) → Int → Int → (Bool → Option Out) → Option Out
abbrev Tk6 := Bool → Option Out
def tok6 (Kt : Tk6) : Out → Option Out
  | ([.s (.bool r0)], none) => Kt r0
  | _ => none
def adp6 (N : Ty6) : Fn1
  | none, [.s (.str a0), .ro (.ints .u8 a1), .s (.int .i64 a2), .s (.int .i64 a3)], K => N a0 a1 a2 a3 (fun r0 => K ([.s (.bool r0)], none))
  | _, _, _ => none

/-! targum/targumlaw10.StampParts -/
abbrev Ty7 := (List UInt8) → Int → Int → (Bool → Option Out) → Option Out
abbrev Tk7 := Bool → Option Out
def tok7 (Kt : Tk7) : Out → Option Out
  | ([.s (.bool r0)], none) => Kt r0
  | _ => none
def adp7 (N : Ty7) : Fn1
  | none, [.s (.str a0), .s (.int .u8 a1), .s (.int .u8 a2)], K => N a0 a1 a2 (fun r0 => K ([.s (.bool r0)], none))
  | _, _, _ => none

/-! targum/targumlaw10.known -/
abbrev Ty8 := (Bool → Option Out) → Option Out
abbrev Tk8 := Bool → Option Out
def tok8 (Kt : Tk8) : Out → Option Out
  | ([.s (.bool r0)], none) => Kt r0
  | _ => none
def adp8 (N : Ty8) : Fn1
  | none, [], K => N (fun r0 => K ([.s (.bool r0)], none))
  | _, _, _ => none

/-! targum/stamp.Of -/
abbrev Ty9 := (List UInt8) → ((List UInt8) → Bool → Option Out) → Option Out
abbrev Tk9 := (List UInt8) → Bool → Option Out
def tok9 (Kt : Tk9) : Out → Option Out
  | ([.s (.str r0), .s (.bool r1)], none) => Kt r0 r1
  | _ => none
def adp9 (N : Ty9) : Fn1
  | none, [.s (.str a0)], K => N a0 (fun r0 r1 => K ([.s (.str r0), .s (.bool r1)], none))
  | _, _, _ => none

/-! targum/targumlaw10.two -/
abbrev Ty10 := Int → ((List UInt8) → Option Out) → Option Out
abbrev Tk10 := (List UInt8) → Option Out
def tok10 (Kt : Tk10) : Out → Option Out
  | ([.s (.str r0)], none) => Kt r0
  | _ => none
def adp10 (N : Ty10) : Fn1
  | none, [.s (.int .i64 a0)], K => N a0 (fun r0 => K ([.s (.str r0)], none))
  | _, _, _ => none

/-! targum/stamp.Days -/
abbrev Ty11 := Int → Int → (Int → Option Out) → Option Out
abbrev Tk11 := Int → Option Out
def tok11 (Kt : Tk11) : Out → Option Out
  | ([.s (.int .i64 r0)], none) => Kt r0
  | _ => none
def adp11 (N : Ty11) : Fn1
  | none, [.s (.int .i64 a0), .s (.int .i64 a1)], K => N a0 a1 (fun r0 => K ([.s (.int .i64 r0)], none))
  | _, _, _ => none

/-! targum/targumref10.Days -/
abbrev Ty12 := Int → Int → (Int → Option Out) → Option Out
abbrev Tk12 := Int → Option Out
def tok12 (Kt : Tk12) : Out → Option Out
  | ([.s (.int .i64 r0)], none) => Kt r0
  | _ => none
def adp12 (N : Ty12) : Fn1
  | none, [.s (.int .i64 a0), .s (.int .i64 a1)], K => N a0 a1 (fun r0 => K ([.s (.int .i64 r0)], none))
  | _, _, _ => none

/-! targum/targumref4.Text -/
abbrev Ty13 := Int → ((List UInt8) → Option Out) → Option Out
abbrev Tk13 := (List UInt8) → Option Out
def tok13 (Kt : Tk13) : Out → Option Out
  | ([.s (.str r0)], none) => Kt r0
  | _ => none
def adp13 (N : Ty13) : Fn1
  | none, [.s (.int .i64 a0)], K => N a0 (fun r0 => K ([.s (.str r0)], none))
  | _, _, _ => none

/-! targum/targumlaw10.moment -/
abbrev Ty14 := (List Int) → ((List UInt8) → Option Out) → Option Out
abbrev Tk14 := (List UInt8) → Option Out
def tok14 (Kt : Tk14) : Out → Option Out
  | ([.s (.str r0)], none) => Kt r0
  | _ => none
def adp14 (N : Ty14) : Fn1
  | none, [.ro (.ints .u8 a0)], K => N a0 (fun r0 => K ([.s (.str r0)], none))
  | _, _, _ => none

/-! targum/targumref10.Of -/
abbrev Ty15 := (List UInt8) → ((List UInt8) → Bool → Option Out) → Option Out
abbrev Tk15 := (List UInt8) → Bool → Option Out
def tok15 (Kt : Tk15) : Out → Option Out
  | ([.s (.str r0), .s (.bool r1)], none) => Kt r0 r1
  | _ => none
def adp15 (N : Ty15) : Fn1
  | none, [.s (.str a0)], K => N a0 (fun r0 r1 => K ([.s (.str r0), .s (.bool r1)], none))
  | _, _, _ => none

/-! targum/stamp.Is -/
abbrev Ty16 := (List UInt8) → (Bool → Option Out) → Option Out
abbrev Tk16 := Bool → Option Out
def tok16 (Kt : Tk16) : Out → Option Out
  | ([.s (.bool r0)], none) => Kt r0
  | _ => none
def adp16 (N : Ty16) : Fn1
  | none, [.s (.str a0)], K => N a0 (fun r0 => K ([.s (.bool r0)], none))
  | _, _, _ => none

/-! targum/stamp.read -/
abbrev Ty17 := (List UInt8) → (Int → Int → Int → Int → Int → Int → (List UInt8) → Int → Bool → Bool → Option Out) → Option Out
abbrev Tk17 := Int → Int → Int → Int → Int → Int → (List UInt8) → Int → Bool → Bool → Option Out
def tok17 (Kt : Tk17) : Out → Option Out
  | ([.agg (.ss [.int .i64 r0_year, .int .i64 r0_month, .int .i64 r0_day, .int .i64 r0_hour, .int .i64 r0_minute, .int .i64 r0_second, .str r0_frac, .int .i64 r0_zone]), .s (.bool r1), .s (.bool r2)], none) => Kt r0_year r0_month r0_day r0_hour r0_minute r0_second r0_frac r0_zone r1 r2
  | _ => none
def adp17 (N : Ty17) : Fn1
  | none, [.s (.str a0)], K => N a0 (fun r0_year r0_month r0_day r0_hour r0_minute r0_second r0_frac r0_zone r1 r2 => K ([.agg (.ss [.int .i64 r0_year, .int .i64 r0_month, .int .i64 r0_day, .int .i64 r0_hour, .int .i64 r0_minute, .int .i64 r0_second, .str r0_frac, .int .i64 r0_zone]), .s (.bool r1), .s (.bool r2)], none))
  | _, _, _ => none

/-! strings.Clone -/
abbrev Ty18 := (List UInt8) → ((List UInt8) → Option Out) → Option Out
abbrev Tk18 := (List UInt8) → Option Out
def tok18 (Kt : Tk18) : Out → Option Out
  | ([.s (.str r0)], none) => Kt r0
  | _ => none
def adp18 (N : Ty18) : Fn1
  | none, [.s (.str a0)], K => N a0 (fun r0 => K ([.s (.str r0)], none))
  | _, _, _ => none

/-! (targum/stamp.moment).put -/
abbrev Ty19 := Int → Int → Int → Int → Int → Int → (List UInt8) → Int → (Int → Int → Int → Int → Int → Int → (List UInt8) → Int → Bool → Option Out) → Option Out
abbrev Tk19 := Int → Int → Int → Int → Int → Int → (List UInt8) → Int → Bool → Option Out
def tok19 (Kt : Tk19) : Out → Option Out
  | ([.agg (.ss [.int .i64 r0_year, .int .i64 r0_month, .int .i64 r0_day, .int .i64 r0_hour, .int .i64 r0_minute, .int .i64 r0_second, .str r0_frac, .int .i64 r0_zone]), .s (.bool r1)], none) => Kt r0_year r0_month r0_day r0_hour r0_minute r0_second r0_frac r0_zone r1
  | _ => none
def adp19 (N : Ty19) : Fn1
  | none, [.agg (.ss [.int .i64 a0_year, .int .i64 a0_month, .int .i64 a0_day, .int .i64 a0_hour, .int .i64 a0_minute, .int .i64 a0_second, .str a0_frac, .int .i64 a0_zone])], K => N a0_year a0_month a0_day a0_hour a0_minute a0_second a0_frac a0_zone (fun r0_year r0_month r0_day r0_hour r0_minute r0_second r0_frac r0_zone r1 => K ([.agg (.ss [.int .i64 r0_year, .int .i64 r0_month, .int .i64 r0_day, .int .i64 r0_hour, .int .i64 r0_minute, .int .i64 r0_second, .str r0_frac, .int .i64 r0_zone]), .s (.bool r1)], none))
  | _, _, _ => none

/-! targum/stamp.wide -/
abbrev Ty20 := Int → Int → ((List UInt8) → Option Out) → Option Out
abbrev Tk20 := (List UInt8) → Option Out
def tok20 (Kt : Tk20) : Out → Option Out
  | ([.s (.str r0)], none) => Kt r0
  | _ => none
def adp20 (N : Ty20) : Fn1
  | none, [.s (.int .i64 a0), .s (.int .i64 a1)], K => N a0 a1 (fun r0 => K ([.s (.str r0)], none))
  | _, _, _ => none

/-! targum/targumref10.digits -/
abbrev Ty21 := (List UInt8) → Int → Int → Int → (Int → Int → Option Out) → Option Out
abbrev Tk21 := Int → Int → Option Out
def tok21 (Kt : Tk21) : Out → Option Out
  | ([.s (.int .i64 r0), .s (.int .i64 r1)], none) => Kt r0 r1
  | _ => none
def adp21 (N : Ty21) : Fn1
  | none, [.s (.str a0), .s (.int .i64 a1), .s (.int .i64 a2), .s (.int .i64 a3)], K => N a0 a1 a2 a3 (fun r0 r1 => K ([.s (.int .i64 r0), .s (.int .i64 r1)], none))
  | _, _, _ => none

/-! targum/targumref10.part -/
abbrev Ty22 := (List UInt8) → Int → (List UInt8) → Int → Int → (Int → Int → Option Out) → Option Out
abbrev Tk22 := Int → Int → Option Out
def tok22 (Kt : Tk22) : Out → Option Out
  | ([.s (.int .i64 r0), .s (.int .i64 r1)], none) => Kt r0 r1
  | _ => none
def adp22 (N : Ty22) : Fn1
  | none, [.s (.str a0), .s (.int .i64 a1), .s (.str a2), .s (.int .i64 a3), .s (.int .i64 a4)], K => N a0 a1 a2 a3 a4 (fun r0 r1 => K ([.s (.int .i64 r0), .s (.int .i64 r1)], none))
  | _, _, _ => none

/-! targum/targumref10.sign -/
abbrev Ty23 := (List UInt8) → Int → (List UInt8) → (Int → Option Out) → Option Out
abbrev Tk23 := Int → Option Out
def tok23 (Kt : Tk23) : Out → Option Out
  | ([.s (.int .i64 r0)], none) => Kt r0
  | _ => none
def adp23 (N : Ty23) : Fn1
  | none, [.s (.str a0), .s (.int .i64 a1), .s (.str a2)], K => N a0 a1 a2 (fun r0 => K ([.s (.int .i64 r0)], none))
  | _, _, _ => none

/-! targum/targumref10.clock -/
abbrev Ty24 := (List UInt8) → Int → Int → Int → Int → ((List UInt8) → Bool → Option Out) → Option Out
abbrev Tk24 := (List UInt8) → Bool → Option Out
def tok24 (Kt : Tk24) : Out → Option Out
  | ([.s (.str r0), .s (.bool r1)], none) => Kt r0 r1
  | _ => none
def adp24 (N : Ty24) : Fn1
  | none, [.s (.str a0), .s (.int .i64 a1), .s (.int .i64 a2), .s (.int .i64 a3), .s (.int .i64 a4)], K => N a0 a1 a2 a3 a4 (fun r0 r1 => K ([.s (.str r0), .s (.bool r1)], none))
  | _, _, _ => none

/-! (*targum/stamp.text).digits -/
abbrev Ty25 := (List UInt8) → Bool → Int → Int → (Int → (List UInt8) → Bool → Option Out) → Option Out
abbrev Tk25 := Int → (List UInt8) → Bool → Option Out
def tok25 (Kt : Tk25) : Out → Option Out
  | ([.s (.int .i64 r0)], some (.ss [.str o_s, .bool o_bad])) => Kt r0 o_s o_bad
  | _ => none
def adp25 (N : Ty25) : Fn1
  | some (54, (.ss [.str q_s, .bool q_bad])), [.s (.int .i64 a1), .s (.int .i64 a2)], K => N q_s q_bad a1 a2 (fun r0 o_s o_bad => K ([.s (.int .i64 r0)], some (.ss [.str o_s, .bool o_bad])))
  | _, _, _ => none

/-! (*targum/stamp.text).must -/
abbrev Ty26 := (List UInt8) → Bool → (List UInt8) → (Int → (List UInt8) → Bool → Option Out) → Option Out
abbrev Tk26 := Int → (List UInt8) → Bool → Option Out
def tok26 (Kt : Tk26) : Out → Option Out
  | ([.s (.int .u8 r0)], some (.ss [.str o_s, .bool o_bad])) => Kt r0 o_s o_bad
  | _ => none
def adp26 (N : Ty26) : Fn1
  | some (54, (.ss [.str q_s, .bool q_bad])), [.s (.str a1)], K => N q_s q_bad a1 (fun r0 o_s o_bad => K ([.s (.int .u8 r0)], some (.ss [.str o_s, .bool o_bad])))
  | _, _, _ => none

/-! (*targum/stamp.text).sign -/
abbrev Ty27 := (List UInt8) → Bool → (List UInt8) → (Int → (List UInt8) → Bool → Option Out) → Option Out
abbrev Tk27 := Int → (List UInt8) → Bool → Option Out
def tok27 (Kt : Tk27) : Out → Option Out
  | ([.s (.int .u8 r0)], some (.ss [.str o_s, .bool o_bad])) => Kt r0 o_s o_bad
  | _ => none
def adp27 (N : Ty27) : Fn1
  | some (54, (.ss [.str q_s, .bool q_bad])), [.s (.str a1)], K => N q_s q_bad a1 (fun r0 o_s o_bad => K ([.s (.int .u8 r0)], some (.ss [.str o_s, .bool o_bad])))
  | _, _, _ => none

/-! (*targum/stamp.text).row -/
abbrev Ty28 := (List UInt8) → Bool → (List UInt8) → ((List UInt8) → (List UInt8) → Bool → Option Out) → Option Out
abbrev Tk28 := (List UInt8) → (List UInt8) → Bool → Option Out
def tok28 (Kt : Tk28) : Out → Option Out
  | ([.s (.str r0)], some (.ss [.str o_s, .bool o_bad])) => Kt r0 o_s o_bad
  | _ => none
def adp28 (N : Ty28) : Fn1
  | some (54, (.ss [.str q_s, .bool q_bad])), [.s (.str a1)], K => N q_s q_bad a1 (fun r0 o_s o_bad => K ([.s (.str r0)], some (.ss [.str o_s, .bool o_bad])))
  | _, _, _ => none

/-! strings.TrimRight -/
abbrev Ty29 := (List UInt8) → (List UInt8) → ((List UInt8) → Option Out) → Option Out
abbrev Tk29 := (List UInt8) → Option Out
def tok29 (Kt : Tk29) : Out → Option Out
  | ([.s (.str r0)], none) => Kt r0
  | _ => none
def adp29 (N : Ty29) : Fn1
  | none, [.s (.str a0), .s (.str a1)], K => N a0 a1 (fun r0 => K ([.s (.str r0)], none))
  | _, _, _ => none

/-! (*targum/stamp.text).zone -/
abbrev Ty30 := (List UInt8) → Bool → (Int → (List UInt8) → Bool → Option Out) → Option Out
abbrev Tk30 := Int → (List UInt8) → Bool → Option Out
def tok30 (Kt : Tk30) : Out → Option Out
  | ([.s (.int .i64 r0)], some (.ss [.str o_s, .bool o_bad])) => Kt r0 o_s o_bad
  | _ => none
def adp30 (N : Ty30) : Fn1
  | some (54, (.ss [.str q_s, .bool q_bad])), [], K => N q_s q_bad (fun r0 o_s o_bad => K ([.s (.int .i64 r0)], some (.ss [.str o_s, .bool o_bad])))
  | _, _, _ => none

/-! (targum/stamp.moment).may -/
abbrev Ty31 := Int → Int → Int → Int → Int → Int → (List UInt8) → Int → (Bool → Option Out) → Option Out
abbrev Tk31 := Bool → Option Out
def tok31 (Kt : Tk31) : Out → Option Out
  | ([.s (.bool r0)], none) => Kt r0
  | _ => none
def adp31 (N : Ty31) : Fn1
  | none, [.agg (.ss [.int .i64 a0_year, .int .i64 a0_month, .int .i64 a0_day, .int .i64 a0_hour, .int .i64 a0_minute, .int .i64 a0_second, .str a0_frac, .int .i64 a0_zone])], K => N a0_year a0_month a0_day a0_hour a0_minute a0_second a0_frac a0_zone (fun r0 => K ([.s (.bool r0)], none))
  | _, _, _ => none

/-! internal/stringslite.Clone -/
abbrev Ty32 := (List UInt8) → ((List UInt8) → Option Out) → Option Out
abbrev Tk32 := (List UInt8) → Option Out
def tok32 (Kt : Tk32) : Out → Option Out
  | ([.s (.str r0)], none) => Kt r0
  | _ => none
def adp32 (N : Ty32) : Fn1
  | none, [.s (.str a0)], K => N a0 (fun r0 => K ([.s (.str r0)], none))
  | _, _, _ => none

/-! strconv.Itoa -/
abbrev Ty33 := Int → ((List UInt8) → Option Out) → Option Out
abbrev Tk33 := (List UInt8) → Option Out
def tok33 (Kt : Tk33) : Out → Option Out
  | ([.s (.str r0)], none) => Kt r0
  | _ => none
def adp33 (N : Ty33) : Fn1
  | none, [.s (.int .i64 a0)], K => N a0 (fun r0 => K ([.s (.str r0)], none))
  | _, _, _ => none

/-! strings.Repeat -/
abbrev Ty34 := (List UInt8) → Int → ((List UInt8) → Option Out) → Option Out
abbrev Tk34 := (List UInt8) → Option Out
def tok34 (Kt : Tk34) : Out → Option Out
  | ([.s (.str r0)], none) => Kt r0
  | _ => none
def adp34 (N : Ty34) : Fn1
  | none, [.s (.str a0), .s (.int .i64 a1)], K => N a0 a1 (fun r0 => K ([.s (.str r0)], none))
  | _, _, _ => none

/-! targum/targumref4.IsDigit -/
abbrev Ty35 := Int → (Bool → Option Out) → Option Out
abbrev Tk35 := Bool → Option Out
def tok35 (Kt : Tk35) : Out → Option Out
  | ([.s (.bool r0)], none) => Kt r0
  | _ => none
def adp35 (N : Ty35) : Fn1
  | none, [.s (.int .u8 a0)], K => N a0 (fun r0 => K ([.s (.bool r0)], none))
  | _, _, _ => none

/-! targum/targumref10.zone -/
abbrev Ty36 := (List UInt8) → Int → (Int → Bool → Option Out) → Option Out
abbrev Tk36 := Int → Bool → Option Out
def tok36 (Kt : Tk36) : Out → Option Out
  | ([.s (.int .i64 r0), .s (.bool r1)], none) => Kt r0 r1
  | _ => none
def adp36 (N : Ty36) : Fn1
  | none, [.s (.str a0), .s (.int .i64 a1)], K => N a0 a1 (fun r0 r1 => K ([.s (.int .i64 r0), .s (.bool r1)], none))
  | _, _, _ => none

/-! targum/targumref10.moved -/
abbrev Ty37 := Int → Int → Int → Int → ((List UInt8) → Bool → Option Out) → Option Out
abbrev Tk37 := (List UInt8) → Bool → Option Out
def tok37 (Kt : Tk37) : Out → Option Out
  | ([.s (.str r0), .s (.bool r1)], none) => Kt r0 r1
  | _ => none
def adp37 (N : Ty37) : Fn1
  | none, [.s (.int .i64 a0), .s (.int .i64 a1), .s (.int .i64 a2), .s (.int .i64 a3)], K => N a0 a1 a2 a3 (fun r0 r1 => K ([.s (.str r0), .s (.bool r1)], none))
  | _, _, _ => none

/-! targum/targumref10.two -/
abbrev Ty38 := Int → ((List UInt8) → Option Out) → Option Out
abbrev Tk38 := (List UInt8) → Option Out
def tok38 (Kt : Tk38) : Out → Option Out
  | ([.s (.str r0)], none) => Kt r0
  | _ => none
def adp38 (N : Ty38) : Fn1
  | none, [.s (.int .i64 a0)], K => N a0 (fun r0 => K ([.s (.str r0)], none))
  | _, _, _ => none

/-! strings.IndexByte -/
abbrev Ty39 := (List UInt8) → Int → (Int → Option Out) → Option Out
abbrev Tk39 := Int → Option Out
def tok39 (Kt : Tk39) : Out → Option Out
  | ([.s (.int .i64 r0)], none) => Kt r0
  | _ => none
def adp39 (N : Ty39) : Fn1
  | none, [.s (.str a0), .s (.int .u8 a1)], K => N a0 a1 (fun r0 => K ([.s (.int .i64 r0)], none))
  | _, _, _ => none

/-! targum/stamp.cutLeft -/
abbrev Ty40 := (List UInt8) → (List UInt8) → ((List UInt8) → Option Out) → Option Out
abbrev Tk40 := (List UInt8) → Option Out
def tok40 (Kt : Tk40) : Out → Option Out
  | ([.s (.str r0)], none) => Kt r0
  | _ => none
def adp40 (N : Ty40) : Fn1
  | none, [.s (.str a0), .s (.str a1)], K => N a0 a1 (fun r0 => K ([.s (.str r0)], none))
  | _, _, _ => none

/-! targum/targumref10.day -/
abbrev Ty52 := Int → Int → Int → ((List UInt8) → Option Out) → Option Out
abbrev Tk52 := (List UInt8) → Option Out
def tok52 (Kt : Tk52) : Out → Option Out
  | ([.s (.str r0)], none) => Kt r0
  | _ => none
def adp52 (N : Ty52) : Fn1
  | none, [.s (.int .i64 a0), .s (.int .i64 a1), .s (.int .i64 a2)], K => N a0 a1 a2 (fun r0 => K ([.s (.str r0)], none))
  | _, _, _ => none

end Go.Proofs.YtnfjggagenmkjaaDoor
