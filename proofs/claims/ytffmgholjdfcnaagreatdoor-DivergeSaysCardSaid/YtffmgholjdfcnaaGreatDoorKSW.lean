import Derived.Test.YtffmgholjdfcnaaGreatDoorKSA
import Derived.Test.YtffmgholjdfcnaaGreatDoorProg
set_option maxRecDepth 100000
set_option linter.unusedVariables false
namespace Go.Proofs.YtffmgholjdfcnaaGreatDoor
open Go Go.Proofs AM
open Go.IntKind (i64 u8)
open Go.Proofs.Tryz
noncomputable section
abbrev Oo:=Option Out
abbrev Cu:=Nat→Env→(Env→Oo)→Oo
abbrev Lv:=Nat→Option (List (Nat × Co))
abbrev Cv (C:Nat→Env→(Env→Option Out)→Option Out):Prop:=∀ key e t,C key e t=t e
theorem Cv.t {C:Cu} (hC:Cv C) {k:Nat} {e:Env} {t:Env→Oo} {r:Oo} (h:t e=r):C k e t=r:=(hC k e t).trans h
abbrev FnP (G:World→Prop) (ng:Nat):=FnIs prog G ng
abbrev SP (G:World→Prop) (ng:Nat):=Stays prog G ng
theorem dT {p:Prop} [inst:Decidable p]:p→decide p=true:=decide_eq_true
theorem dF {p:Prop} [inst:Decidable p]:¬p→decide p=false:=decide_eq_false
theorem mn {P:Nat × Fn1→Prop}:∀ p,p ∈ ([]:List (Nat × Fn1))→P p:=fun _ h=>nomatch h
theorem mc {P:Nat × Fn1→Prop} {a:Nat × Fn1} {l:List (Nat × Fn1)} (h:P a) (t:∀ p,p ∈ l→P p):∀ p,p ∈ a :: l→P p:=fun p hp=>(List.mem_cons.1 hp).elim (fun e=>e ▸ h) (t p)
theorem oB {α β:Type _} (a:α) (f:α→Option β):(some a).bind f=f a:=rfl
noncomputable def kk (l:List Nat):Option (List (Nat × Co)):=some (l.map fun i=>(i,.k))
noncomputable def lv0:Lv:=fun _=>none
def iv (n:Int):V:=.c (.s (.int .i64 n))
def bv (b:Bool):V:=.c (.s (.bool b))
def sv (l:BY):V:=.c (.s (.str l))
def si (n:Int):S:=.int .i64 n
def aKO (Γ:Gam) (nn:Nat) (Lv:Lv) (C:Cu) (k:Nat) (f:Func) (r:Option Nat) (t:Out→Oo) (p:List Nat) (e:Env):Oo:=atK prog Γ nn Lv C k (f.body.getD .skip) p e (fin prog f r t)
def aK (l:List (Nat × Fn1)) (nn:Nat) (Lv:Lv) (C:Cu) (k:Nat) (f:Func) (r:Option Nat) (t:Out→Oo) (p:List Nat) (e:Env):Oo:=aKO (lookG l) nn Lv C k f r t p e
def hKO (Γ:Gam) (nn:Nat) (Lv:Lv) (C:Cu) (k:Nat) (f:Func) (r:Option Nat) (t:Out→Oo) (j:Nat) (p:List Nat) (e:Env):Oo:=headK prog Γ nn Lv C k j (f.body.getD .skip) p e (fin prog f r t)
def hK (l:List (Nat × Fn1)) (nn:Nat) (Lv:Lv) (C:Cu) (k:Nat) (f:Func) (r:Option Nat) (t:Out→Oo) (j:Nat) (p:List Nat) (e:Env):Oo:=hKO (lookG l) nn Lv C k f r t j p e
def uKO (Γ:Gam) (nn:Nat) (Lv:Lv) (C:Cu) (k:Nat) (f:Func) (r:Option Nat) (t:Out→Oo) (j b:Nat) (p:List Nat) (e:Env):Oo:=jumpK prog Γ nn Lv C k j b (f.body.getD .skip) p e (fin prog f r t)
def uK (l:List (Nat × Fn1)) (nn:Nat) (Lv:Lv) (C:Cu) (k:Nat) (f:Func) (r:Option Nat) (t:Out→Oo) (j b:Nat) (p:List Nat) (e:Env):Oo:=uKO (lookG l) nn Lv C k f r t j b p e
abbrev Zq1:=BY→Oo
def zq1 (K:Zq1):Out→Oo
 | ([.s (.str r0)],none)=>K r0
 | _=>none
abbrev Zq2:=Int→BY→Bool→Oo
def zq2 (K:Zq2):Out→Oo
 | ([.s (.int .i64 r0)],some (.ss [.str r1,.bool r2]))=>K r0 r1 r2
 | _=>none
abbrev Zq3:=Int→BY→Bool→Oo
def zq3 (K:Zq3):Out→Oo
 | ([.s (.int .u8 r0)],some (.ss [.str r1,.bool r2]))=>K r0 r1 r2
 | _=>none
abbrev Zq4:=BY→BY→Bool→Oo
def zq4 (K:Zq4):Out→Oo
 | ([.s (.str r0)],some (.ss [.str r1,.bool r2]))=>K r0 r1 r2
 | _=>none
abbrev Zq5:=Bool→Oo
def zq5 (K:Zq5):Out→Oo
 | ([.s (.bool r0)],none)=>K r0
 | _=>none
abbrev Zq6:=Int→Int→Int→Int→Int→Int→BY→Int→Bool→Bool→Oo
def zq6 (K:Zq6):Out→Oo
 | ([.agg (.ss [.int .i64 r0,.int .i64 r1,.int .i64 r2,.int .i64 r3,.int .i64 r4,.int .i64 r5,.str r6,.int .i64 r7]),.s (.bool r8),.s (.bool r9)],none)=>K r0 r1 r2 r3 r4 r5 r6 r7 r8 r9
 | _=>none
abbrev Zq7:=Int→Oo
def zq7 (K:Zq7):Out→Oo
 | ([.s (.int .i64 r0)],none)=>K r0
 | _=>none
abbrev Zq8:=Int→Int→Int→Int→Int→Int→BY→Int→Bool→Oo
def zq8 (K:Zq8):Out→Oo
 | ([.agg (.ss [.int .i64 r0,.int .i64 r1,.int .i64 r2,.int .i64 r3,.int .i64 r4,.int .i64 r5,.str r6,.int .i64 r7]),.s (.bool r8)],none)=>K r0 r1 r2 r3 r4 r5 r6 r7 r8
 | _=>none
abbrev Zq9:=BY→Bool→Oo
def zq9 (K:Zq9):Out→Oo
 | ([.s (.str r0),.s (.bool r1)],none)=>K r0 r1
 | _=>none
abbrev Zq10:=Int→Int→Oo
def zq10 (K:Zq10):Out→Oo
 | ([.s (.int .i64 r0),.s (.int .i64 r1)],none)=>K r0 r1
 | _=>none
abbrev Zq11:=Int→Bool→Oo
def zq11 (K:Zq11):Out→Oo
 | ([.s (.int .i64 r0),.s (.bool r1)],none)=>K r0 r1
 | _=>none
abbrev Zq12:=Bool→Bool→Oo
def zq12 (K:Zq12):Out→Oo
 | ([.s (.bool r0),.s (.bool r1)],none)=>K r0 r1
 | _=>none
abbrev Zq13:=BY→BY→Bool→Oo
def zq13 (K:Zq13):Out→Oo
 | ([.agg (.ss [.str r0,.str r1]),.s (.bool r2)],none)=>K r0 r1 r2
 | _=>none
abbrev Zq14:=BY→BY→Oo
def zq14 (K:Zq14):Out→Oo
 | ([.agg (.ss [.str r0,.str r1])],none)=>K r0 r1
 | _=>none
abbrev Zq15:=Int→Bool→BY→BY→Bool→Oo
def zq15 (K:Zq15):Out→Oo
 | ([.agg (.ss [.int .i64 r0,.bool r1,.str r2,.str r3]),.s (.bool r4)],none)=>K r0 r1 r2 r3 r4
 | _=>none
abbrev Zq16:=BY→BY→Oo
def zq16 (K:Zq16):Out→Oo
 | ([.s (.str r0),.s (.str r1)],none)=>K r0 r1
 | _=>none
abbrev Zq17:=Bool→BY→Oo
def zq17 (K:Zq17):Out→Oo
 | ([.s (.bool r0),.s (.str r1)],none)=>K r0 r1
 | _=>none
abbrev Zq19:=Int→Bool→BY→BY→Oo
def zq19 (K:Zq19):Out→Oo
 | ([.agg (.ss [.int .i64 r0,.bool r1,.str r2,.str r3])],none)=>K r0 r1 r2 r3
 | _=>none
abbrev Zq21:=Int→BY→Int→Oo
def zq21 (K:Zq21):Out→Oo
 | ([.s (.int .i64 r0),.s (.str r1),.s (.int .i64 r2)],none)=>K r0 r1 r2
 | _=>none
abbrev Zq22:=Int→Bool→BY→BY→BY→Oo
def zq22 (K:Zq22):Out→Oo
 | ([.agg (.ss [.int .i64 r0,.bool r1,.str r2,.str r3,.str r4])],none)=>K r0 r1 r2 r3 r4
 | _=>none
abbrev Zq23:=BY→Int→Oo
def zq23 (K:Zq23):Out→Oo
 | ([.s (.str r0),.s (.int .i64 r1)],none)=>K r0 r1
 | _=>none
abbrev Zq24:=Int→Bool→BY→BY→Int→Oo
def zq24 (K:Zq24):Out→Oo
 | ([.agg (.ss [.int .i64 r0,.bool r1,.str r2,.str r3]),.s (.int .i64 r4)],none)=>K r0 r1 r2 r3 r4
 | _=>none
abbrev Zq25:=(List Int)→Bool→Oo
def zq25 (K:Zq25):Out→Oo
 | ([.own (.ints .u8 r0),.s (.bool r1)],none)=>K r0 r1
 | _=>none
abbrev Zq26:=(List Int)→Oo
def zq26 (K:Zq26):Out→Oo
 | ([.agg (.ints .u8 r0)],none)=>K r0
 | _=>none
abbrev Zq27:=Int→BY→Bool→Oo
def zq27 (K:Zq27):Out→Oo
 | ([.s (.int .i64 r0),.s (.str r1),.s (.bool r2)],none)=>K r0 r1 r2
 | _=>none
abbrev Zq28:=Int→BY→Oo
def zq28 (K:Zq28):Out→Oo
 | ([.s (.int .i64 r0),.s (.str r1)],none)=>K r0 r1
 | _=>none
abbrev Zq29:=Int→Oo
def zq29 (K:Zq29):Out→Oo
 | ([.s (.int .u8 r0)],none)=>K r0
 | _=>none
abbrev Zq30:=Int→Int→Oo
def zq30 (K:Zq30):Out→Oo
 | ([.s (.int .i32 r0),.s (.int .i64 r1)],none)=>K r0 r1
 | _=>none
abbrev Zq31:=BY→Int→Int→Int→Oo
def zq31 (K:Zq31):Out→Oo
 | ([.s (.str r0),.s (.int .i64 r1),.agg (.ss [.int .i64 r2,.int .i64 r3])],none)=>K r0 r1 r2 r3
 | _=>none
abbrev Zq32:=Bool→BY→BY→Int→Bool→Oo
def zq32 (K:Zq32):Out→Oo
 | ([.agg (.ss [.bool r0,.str r1,.str r2]),.s (.int .i64 r3),.s (.bool r4)],none)=>K r0 r1 r2 r3 r4
 | _=>none
section
variable {G:World→Prop} {ng:Nat} (S:SP G ng) {l:List (Nat × Fn1)} (hl:∀ p,p ∈ l→FnP G ng p.1 p.2) {g:Nat} {f:Func} (hf:prog.funcs[g]?=some f) (hn:(f.name == "runtime.NumGoroutine")=false) {nn:Nat} {Lv:Lv}
include S hl hf hn
abbrev Yq1:=BY→BY→(BY→Oo)→Oo
def yq1 (N:Yq1):Fn1
 | none,[.s (.str a0),.s (.str a1)],K=>N a0 a1 (fun r0=>K ([.s (.str r0)],none))
 | _,_,_=>none
abbrev Lq1 (A R:Yq1):Prop:=∀ a0 a1 K r,A a0 a1 K=some r→R a0 a1 K=some r
theorem xq1 {A:Yq1} (hA:Lq1 A fun a0 a1 K=>runK prog (lookG l) nn Lv cut0 big f none [.s (.str a0),.s (.str a1)] (zq1 K)):FnP G ng g (yq1 A):=spec_run cut0_eq S hl hf hn fun rc cs K r=>by unfold yq1;split;exact fun h=>⟨_,hA _ _ _ _ h,fun p=>by unfold zq1;split;exact id;nofun⟩;nofun
abbrev Yq2:=BY→Bool→Int→Int→(Int→BY→Bool→Oo)→Oo
def yq2 (N:Yq2):Fn1
 | some (164,(.ss [.str a0,.bool a1])),[.s (.int .i64 a2),.s (.int .i64 a3)],K=>N a0 a1 a2 a3 (fun r0 r1 r2=>K ([.s (.int .i64 r0)],some (.ss [.str r1,.bool r2])))
 | _,_,_=>none
abbrev Lq2 (A R:Yq2):Prop:=∀ a0 a1 a2 a3 K r,A a0 a1 a2 a3 K=some r→R a0 a1 a2 a3 K=some r
theorem xq2 {A:Yq2} (hA:Lq2 A fun a0 a1 a2 a3 K=>runK prog (lookG l) nn Lv cut0 big f (some (164,(.ss [.str a0,.bool a1]))) [.s (.int .i64 a2),.s (.int .i64 a3)] (zq2 K)):FnP G ng g (yq2 A):=spec_run cut0_eq S hl hf hn fun rc cs K r=>by unfold yq2;split;exact fun h=>⟨_,hA _ _ _ _ _ _ h,fun p=>by unfold zq2;split;exact id;nofun⟩;nofun
abbrev Yq3:=BY→Bool→BY→(Int→BY→Bool→Oo)→Oo
def yq3 (N:Yq3):Fn1
 | some (164,(.ss [.str a0,.bool a1])),[.s (.str a2)],K=>N a0 a1 a2 (fun r0 r1 r2=>K ([.s (.int .u8 r0)],some (.ss [.str r1,.bool r2])))
 | _,_,_=>none
abbrev Lq3 (A R:Yq3):Prop:=∀ a0 a1 a2 K r,A a0 a1 a2 K=some r→R a0 a1 a2 K=some r
theorem xq3 {A:Yq3} (hA:Lq3 A fun a0 a1 a2 K=>runK prog (lookG l) nn Lv cut0 big f (some (164,(.ss [.str a0,.bool a1]))) [.s (.str a2)] (zq3 K)):FnP G ng g (yq3 A):=spec_run cut0_eq S hl hf hn fun rc cs K r=>by unfold yq3;split;exact fun h=>⟨_,hA _ _ _ _ _ h,fun p=>by unfold zq3;split;exact id;nofun⟩;nofun
abbrev Yq4:=BY→Bool→BY→(BY→BY→Bool→Oo)→Oo
def yq4 (N:Yq4):Fn1
 | some (164,(.ss [.str a0,.bool a1])),[.s (.str a2)],K=>N a0 a1 a2 (fun r0 r1 r2=>K ([.s (.str r0)],some (.ss [.str r1,.bool r2])))
 | _,_,_=>none
abbrev Lq4 (A R:Yq4):Prop:=∀ a0 a1 a2 K r,A a0 a1 a2 K=some r→R a0 a1 a2 K=some r
theorem xq4 {A:Yq4} (hA:Lq4 A fun a0 a1 a2 K=>runK prog (lookG l) nn Lv cut0 big f (some (164,(.ss [.str a0,.bool a1]))) [.s (.str a2)] (zq4 K)):FnP G ng g (yq4 A):=spec_run cut0_eq S hl hf hn fun rc cs K r=>by unfold yq4;split;exact fun h=>⟨_,hA _ _ _ _ _ h,fun p=>by unfold zq4;split;exact id;nofun⟩;nofun
abbrev Yq5:=BY→Bool→(Int→BY→Bool→Oo)→Oo
def yq5 (N:Yq5):Fn1
 | some (164,(.ss [.str a0,.bool a1])),[],K=>N a0 a1 (fun r0 r1 r2=>K ([.s (.int .i64 r0)],some (.ss [.str r1,.bool r2])))
 | _,_,_=>none
abbrev Lq5 (A R:Yq5):Prop:=∀ a0 a1 K r,A a0 a1 K=some r→R a0 a1 K=some r
theorem xq5 {A:Yq5} (hA:Lq5 A fun a0 a1 K=>runK prog (lookG l) nn Lv cut0 big f (some (164,(.ss [.str a0,.bool a1]))) [] (zq2 K)):FnP G ng g (yq5 A):=spec_run cut0_eq S hl hf hn fun rc cs K r=>by unfold yq5;split;exact fun h=>⟨_,hA _ _ _ _ h,fun p=>by unfold zq2;split;exact id;nofun⟩;nofun
abbrev Yq6:=Int→Int→Int→Int→Int→Int→BY→Int→(Bool→Oo)→Oo
def yq6 (N:Yq6):Fn1
 | none,[.agg (.ss [.int .i64 a0,.int .i64 a1,.int .i64 a2,.int .i64 a3,.int .i64 a4,.int .i64 a5,.str a6,.int .i64 a7])],K=>N a0 a1 a2 a3 a4 a5 a6 a7 (fun r0=>K ([.s (.bool r0)],none))
 | _,_,_=>none
abbrev Lq6 (A R:Yq6):Prop:=∀ a0 a1 a2 a3 a4 a5 a6 a7 K r,A a0 a1 a2 a3 a4 a5 a6 a7 K=some r→R a0 a1 a2 a3 a4 a5 a6 a7 K=some r
theorem xq6 {A:Yq6} (hA:Lq6 A fun a0 a1 a2 a3 a4 a5 a6 a7 K=>runK prog (lookG l) nn Lv cut0 big f none [.agg (.ss [.int .i64 a0,.int .i64 a1,.int .i64 a2,.int .i64 a3,.int .i64 a4,.int .i64 a5,.str a6,.int .i64 a7])] (zq5 K)):FnP G ng g (yq6 A):=spec_run cut0_eq S hl hf hn fun rc cs K r=>by unfold yq6;split;exact fun h=>⟨_,hA _ _ _ _ _ _ _ _ _ _ h,fun p=>by unfold zq5;split;exact id;nofun⟩;nofun
abbrev Yq7:=BY→(Int→Int→Int→Int→Int→Int→BY→Int→Bool→Bool→Oo)→Oo
def yq7 (N:Yq7):Fn1
 | none,[.s (.str a0)],K=>N a0 (fun r0 r1 r2 r3 r4 r5 r6 r7 r8 r9=>K ([.agg (.ss [.int .i64 r0,.int .i64 r1,.int .i64 r2,.int .i64 r3,.int .i64 r4,.int .i64 r5,.str r6,.int .i64 r7]),.s (.bool r8),.s (.bool r9)],none))
 | _,_,_=>none
abbrev Lq7 (A R:Yq7):Prop:=∀ a0 K r,A a0 K=some r→R a0 K=some r
theorem xq7 {A:Yq7} (hA:Lq7 A fun a0 K=>runK prog (lookG l) nn Lv cut0 big f none [.s (.str a0)] (zq6 K)):FnP G ng g (yq7 A):=spec_run cut0_eq S hl hf hn fun rc cs K r=>by unfold yq7;split;exact fun h=>⟨_,hA _ _ _ h,fun p=>by unfold zq6;split;exact id;nofun⟩;nofun
abbrev Yq8:=Int→Int→(Int→Oo)→Oo
def yq8 (N:Yq8):Fn1
 | none,[.s (.int .i64 a0),.s (.int .i64 a1)],K=>N a0 a1 (fun r0=>K ([.s (.int .i64 r0)],none))
 | _,_,_=>none
abbrev Lq8 (A R:Yq8):Prop:=∀ a0 a1 K r,A a0 a1 K=some r→R a0 a1 K=some r
theorem xq8 {A:Yq8} (hA:Lq8 A fun a0 a1 K=>runK prog (lookG l) nn Lv cut0 big f none [.s (.int .i64 a0),.s (.int .i64 a1)] (zq7 K)):FnP G ng g (yq8 A):=spec_run cut0_eq S hl hf hn fun rc cs K r=>by unfold yq8;split;exact fun h=>⟨_,hA _ _ _ _ h,fun p=>by unfold zq7;split;exact id;nofun⟩;nofun
abbrev Yq9:=Int→Int→Int→Int→Int→Int→BY→Int→(Int→Int→Int→Int→Int→Int→BY→Int→Bool→Oo)→Oo
def yq9 (N:Yq9):Fn1
 | none,[.agg (.ss [.int .i64 a0,.int .i64 a1,.int .i64 a2,.int .i64 a3,.int .i64 a4,.int .i64 a5,.str a6,.int .i64 a7])],K=>N a0 a1 a2 a3 a4 a5 a6 a7 (fun r0 r1 r2 r3 r4 r5 r6 r7 r8=>K ([.agg (.ss [.int .i64 r0,.int .i64 r1,.int .i64 r2,.int .i64 r3,.int .i64 r4,.int .i64 r5,.str r6,.int .i64 r7]),.s (.bool r8)],none))
 | _,_,_=>none
abbrev Lq9 (A R:Yq9):Prop:=∀ a0 a1 a2 a3 a4 a5 a6 a7 K r,A a0 a1 a2 a3 a4 a5 a6 a7 K=some r→R a0 a1 a2 a3 a4 a5 a6 a7 K=some r
theorem xq9 {A:Yq9} (hA:Lq9 A fun a0 a1 a2 a3 a4 a5 a6 a7 K=>runK prog (lookG l) nn Lv cut0 big f none [.agg (.ss [.int .i64 a0,.int .i64 a1,.int .i64 a2,.int .i64 a3,.int .i64 a4,.int .i64 a5,.str a6,.int .i64 a7])] (zq8 K)):FnP G ng g (yq9 A):=spec_run cut0_eq S hl hf hn fun rc cs K r=>by unfold yq9;split;exact fun h=>⟨_,hA _ _ _ _ _ _ _ _ _ _ h,fun p=>by unfold zq8;split;exact id;nofun⟩;nofun
abbrev Yq10:=Int→(BY→Oo)→Oo
def yq10 (N:Yq10):Fn1
 | none,[.s (.int .i64 a0)],K=>N a0 (fun r0=>K ([.s (.str r0)],none))
 | _,_,_=>none
abbrev Lq10 (A R:Yq10):Prop:=∀ a0 K r,A a0 K=some r→R a0 K=some r
theorem xq10 {A:Yq10} (hA:Lq10 A fun a0 K=>runK prog (lookG l) nn Lv cut0 big f none [.s (.int .i64 a0)] (zq1 K)):FnP G ng g (yq10 A):=spec_run cut0_eq S hl hf hn fun rc cs K r=>by unfold yq10;split;exact fun h=>⟨_,hA _ _ _ h,fun p=>by unfold zq1;split;exact id;nofun⟩;nofun
abbrev Yq11:=BY→Int→(BY→Oo)→Oo
def yq11 (N:Yq11):Fn1
 | none,[.s (.str a0),.s (.int .i64 a1)],K=>N a0 a1 (fun r0=>K ([.s (.str r0)],none))
 | _,_,_=>none
abbrev Lq11 (A R:Yq11):Prop:=∀ a0 a1 K r,A a0 a1 K=some r→R a0 a1 K=some r
theorem xq11 {A:Yq11} (hA:Lq11 A fun a0 a1 K=>runK prog (lookG l) nn Lv cut0 big f none [.s (.str a0),.s (.int .i64 a1)] (zq1 K)):FnP G ng g (yq11 A):=spec_run cut0_eq S hl hf hn fun rc cs K r=>by unfold yq11;split;exact fun h=>⟨_,hA _ _ _ _ h,fun p=>by unfold zq1;split;exact id;nofun⟩;nofun
abbrev Yq12:=Int→Int→(BY→Oo)→Oo
def yq12 (N:Yq12):Fn1
 | none,[.s (.int .i64 a0),.s (.int .i64 a1)],K=>N a0 a1 (fun r0=>K ([.s (.str r0)],none))
 | _,_,_=>none
abbrev Lq12 (A R:Yq12):Prop:=∀ a0 a1 K r,A a0 a1 K=some r→R a0 a1 K=some r
theorem xq12 {A:Yq12} (hA:Lq12 A fun a0 a1 K=>runK prog (lookG l) nn Lv cut0 big f none [.s (.int .i64 a0),.s (.int .i64 a1)] (zq1 K)):FnP G ng g (yq12 A):=spec_run cut0_eq S hl hf hn fun rc cs K r=>by unfold yq12;split;exact fun h=>⟨_,hA _ _ _ _ h,fun p=>by unfold zq1;split;exact id;nofun⟩;nofun
abbrev Yq13:=BY→Int→(Int→Oo)→Oo
def yq13 (N:Yq13):Fn1
 | none,[.s (.str a0),.s (.int .u8 a1)],K=>N a0 a1 (fun r0=>K ([.s (.int .i64 r0)],none))
 | _,_,_=>none
abbrev Lq13 (A R:Yq13):Prop:=∀ a0 a1 K r,A a0 a1 K=some r→R a0 a1 K=some r
theorem xq13 {A:Yq13} (hA:Lq13 A fun a0 a1 K=>runK prog (lookG l) nn Lv cut0 big f none [.s (.str a0),.s (.int .u8 a1)] (zq7 K)):FnP G ng g (yq13 A):=spec_run cut0_eq S hl hf hn fun rc cs K r=>by unfold yq13;split;exact fun h=>⟨_,hA _ _ _ _ h,fun p=>by unfold zq7;split;exact id;nofun⟩;nofun
abbrev Yq14:=BY→(BY→Oo)→Oo
def yq14 (N:Yq14):Fn1
 | none,[.s (.str a0)],K=>N a0 (fun r0=>K ([.s (.str r0)],none))
 | _,_,_=>none
abbrev Lq14 (A R:Yq14):Prop:=∀ a0 K r,A a0 K=some r→R a0 K=some r
theorem xq14 {A:Yq14} (hA:Lq14 A fun a0 K=>runK prog (lookG l) nn Lv cut0 big f none [.s (.str a0)] (zq1 K)):FnP G ng g (yq14 A):=spec_run cut0_eq S hl hf hn fun rc cs K r=>by unfold yq14;split;exact fun h=>⟨_,hA _ _ _ h,fun p=>by unfold zq1;split;exact id;nofun⟩;nofun
abbrev Yq15:=BY→(BY→Bool→Oo)→Oo
def yq15 (N:Yq15):Fn1
 | none,[.s (.str a0)],K=>N a0 (fun r0 r1=>K ([.s (.str r0),.s (.bool r1)],none))
 | _,_,_=>none
abbrev Lq15 (A R:Yq15):Prop:=∀ a0 K r,A a0 K=some r→R a0 K=some r
theorem xq15 {A:Yq15} (hA:Lq15 A fun a0 K=>runK prog (lookG l) nn Lv cut0 big f none [.s (.str a0)] (zq9 K)):FnP G ng g (yq15 A):=spec_run cut0_eq S hl hf hn fun rc cs K r=>by unfold yq15;split;exact fun h=>⟨_,hA _ _ _ h,fun p=>by unfold zq9;split;exact id;nofun⟩;nofun
abbrev Yq16:=BY→Int→Int→Int→(Int→Int→Oo)→Oo
def yq16 (N:Yq16):Fn1
 | none,[.s (.str a0),.s (.int .i64 a1),.s (.int .i64 a2),.s (.int .i64 a3)],K=>N a0 a1 a2 a3 (fun r0 r1=>K ([.s (.int .i64 r0),.s (.int .i64 r1)],none))
 | _,_,_=>none
abbrev Lq16 (A R:Yq16):Prop:=∀ a0 a1 a2 a3 K r,A a0 a1 a2 a3 K=some r→R a0 a1 a2 a3 K=some r
theorem xq16 {A:Yq16} (hA:Lq16 A fun a0 a1 a2 a3 K=>runK prog (lookG l) nn Lv cut0 big f none [.s (.str a0),.s (.int .i64 a1),.s (.int .i64 a2),.s (.int .i64 a3)] (zq10 K)):FnP G ng g (yq16 A):=spec_run cut0_eq S hl hf hn fun rc cs K r=>by unfold yq16;split;exact fun h=>⟨_,hA _ _ _ _ _ _ h,fun p=>by unfold zq10;split;exact id;nofun⟩;nofun
abbrev Yq17:=BY→Int→BY→Int→Int→(Int→Int→Oo)→Oo
def yq17 (N:Yq17):Fn1
 | none,[.s (.str a0),.s (.int .i64 a1),.s (.str a2),.s (.int .i64 a3),.s (.int .i64 a4)],K=>N a0 a1 a2 a3 a4 (fun r0 r1=>K ([.s (.int .i64 r0),.s (.int .i64 r1)],none))
 | _,_,_=>none
abbrev Lq17 (A R:Yq17):Prop:=∀ a0 a1 a2 a3 a4 K r,A a0 a1 a2 a3 a4 K=some r→R a0 a1 a2 a3 a4 K=some r
theorem xq17 {A:Yq17} (hA:Lq17 A fun a0 a1 a2 a3 a4 K=>runK prog (lookG l) nn Lv cut0 big f none [.s (.str a0),.s (.int .i64 a1),.s (.str a2),.s (.int .i64 a3),.s (.int .i64 a4)] (zq10 K)):FnP G ng g (yq17 A):=spec_run cut0_eq S hl hf hn fun rc cs K r=>by unfold yq17;split;exact fun h=>⟨_,hA _ _ _ _ _ _ _ h,fun p=>by unfold zq10;split;exact id;nofun⟩;nofun
abbrev Yq18:=BY→Int→BY→(Int→Oo)→Oo
def yq18 (N:Yq18):Fn1
 | none,[.s (.str a0),.s (.int .i64 a1),.s (.str a2)],K=>N a0 a1 a2 (fun r0=>K ([.s (.int .i64 r0)],none))
 | _,_,_=>none
abbrev Lq18 (A R:Yq18):Prop:=∀ a0 a1 a2 K r,A a0 a1 a2 K=some r→R a0 a1 a2 K=some r
theorem xq18 {A:Yq18} (hA:Lq18 A fun a0 a1 a2 K=>runK prog (lookG l) nn Lv cut0 big f none [.s (.str a0),.s (.int .i64 a1),.s (.str a2)] (zq7 K)):FnP G ng g (yq18 A):=spec_run cut0_eq S hl hf hn fun rc cs K r=>by unfold yq18;split;exact fun h=>⟨_,hA _ _ _ _ _ h,fun p=>by unfold zq7;split;exact id;nofun⟩;nofun
abbrev Yq19:=BY→Int→Int→Int→Int→(BY→Bool→Oo)→Oo
def yq19 (N:Yq19):Fn1
 | none,[.s (.str a0),.s (.int .i64 a1),.s (.int .i64 a2),.s (.int .i64 a3),.s (.int .i64 a4)],K=>N a0 a1 a2 a3 a4 (fun r0 r1=>K ([.s (.str r0),.s (.bool r1)],none))
 | _,_,_=>none
abbrev Lq19 (A R:Yq19):Prop:=∀ a0 a1 a2 a3 a4 K r,A a0 a1 a2 a3 a4 K=some r→R a0 a1 a2 a3 a4 K=some r
theorem xq19 {A:Yq19} (hA:Lq19 A fun a0 a1 a2 a3 a4 K=>runK prog (lookG l) nn Lv cut0 big f none [.s (.str a0),.s (.int .i64 a1),.s (.int .i64 a2),.s (.int .i64 a3),.s (.int .i64 a4)] (zq9 K)):FnP G ng g (yq19 A):=spec_run cut0_eq S hl hf hn fun rc cs K r=>by unfold yq19;split;exact fun h=>⟨_,hA _ _ _ _ _ _ _ h,fun p=>by unfold zq9;split;exact id;nofun⟩;nofun
abbrev Yq20:=Int→(Bool→Oo)→Oo
def yq20 (N:Yq20):Fn1
 | none,[.s (.int .u8 a0)],K=>N a0 (fun r0=>K ([.s (.bool r0)],none))
 | _,_,_=>none
abbrev Lq20 (A R:Yq20):Prop:=∀ a0 K r,A a0 K=some r→R a0 K=some r
theorem xq20 {A:Yq20} (hA:Lq20 A fun a0 K=>runK prog (lookG l) nn Lv cut0 big f none [.s (.int .u8 a0)] (zq5 K)):FnP G ng g (yq20 A):=spec_run cut0_eq S hl hf hn fun rc cs K r=>by unfold yq20;split;exact fun h=>⟨_,hA _ _ _ h,fun p=>by unfold zq5;split;exact id;nofun⟩;nofun
abbrev Yq21:=BY→Int→(Int→Bool→Oo)→Oo
def yq21 (N:Yq21):Fn1
 | none,[.s (.str a0),.s (.int .i64 a1)],K=>N a0 a1 (fun r0 r1=>K ([.s (.int .i64 r0),.s (.bool r1)],none))
 | _,_,_=>none
abbrev Lq21 (A R:Yq21):Prop:=∀ a0 a1 K r,A a0 a1 K=some r→R a0 a1 K=some r
theorem xq21 {A:Yq21} (hA:Lq21 A fun a0 a1 K=>runK prog (lookG l) nn Lv cut0 big f none [.s (.str a0),.s (.int .i64 a1)] (zq11 K)):FnP G ng g (yq21 A):=spec_run cut0_eq S hl hf hn fun rc cs K r=>by unfold yq21;split;exact fun h=>⟨_,hA _ _ _ _ h,fun p=>by unfold zq11;split;exact id;nofun⟩;nofun
abbrev Yq22:=Int→Int→Int→Int→(BY→Bool→Oo)→Oo
def yq22 (N:Yq22):Fn1
 | none,[.s (.int .i64 a0),.s (.int .i64 a1),.s (.int .i64 a2),.s (.int .i64 a3)],K=>N a0 a1 a2 a3 (fun r0 r1=>K ([.s (.str r0),.s (.bool r1)],none))
 | _,_,_=>none
abbrev Lq22 (A R:Yq22):Prop:=∀ a0 a1 a2 a3 K r,A a0 a1 a2 a3 K=some r→R a0 a1 a2 a3 K=some r
theorem xq22 {A:Yq22} (hA:Lq22 A fun a0 a1 a2 a3 K=>runK prog (lookG l) nn Lv cut0 big f none [.s (.int .i64 a0),.s (.int .i64 a1),.s (.int .i64 a2),.s (.int .i64 a3)] (zq9 K)):FnP G ng g (yq22 A):=spec_run cut0_eq S hl hf hn fun rc cs K r=>by unfold yq22;split;exact fun h=>⟨_,hA _ _ _ _ _ _ h,fun p=>by unfold zq9;split;exact id;nofun⟩;nofun
abbrev Yq23:=Int→Int→Int→(BY→Oo)→Oo
def yq23 (N:Yq23):Fn1
 | none,[.s (.int .i64 a0),.s (.int .i64 a1),.s (.int .i64 a2)],K=>N a0 a1 a2 (fun r0=>K ([.s (.str r0)],none))
 | _,_,_=>none
abbrev Lq23 (A R:Yq23):Prop:=∀ a0 a1 a2 K r,A a0 a1 a2 K=some r→R a0 a1 a2 K=some r
theorem xq23 {A:Yq23} (hA:Lq23 A fun a0 a1 a2 K=>runK prog (lookG l) nn Lv cut0 big f none [.s (.int .i64 a0),.s (.int .i64 a1),.s (.int .i64 a2)] (zq1 K)):FnP G ng g (yq23 A):=spec_run cut0_eq S hl hf hn fun rc cs K r=>by unfold yq23;split;exact fun h=>⟨_,hA _ _ _ _ _ h,fun p=>by unfold zq1;split;exact id;nofun⟩;nofun
abbrev Yq24:=Int→BY→(Bool→Bool→Oo)→Oo
def yq24 (N:Yq24):Fn1
 | none,[.s (.int .i64 a0),.s (.str a1)],K=>N a0 a1 (fun r0 r1=>K ([.s (.bool r0),.s (.bool r1)],none))
 | _,_,_=>none
abbrev Lq24 (A R:Yq24):Prop:=∀ a0 a1 K r,A a0 a1 K=some r→R a0 a1 K=some r
theorem xq24 {A:Yq24} (hA:Lq24 A fun a0 a1 K=>runK prog (lookG l) nn Lv cut0 big f none [.s (.int .i64 a0),.s (.str a1)] (zq12 K)):FnP G ng g (yq24 A):=spec_run cut0_eq S hl hf hn fun rc cs K r=>by unfold yq24;split;exact fun h=>⟨_,hA _ _ _ _ h,fun p=>by unfold zq12;split;exact id;nofun⟩;nofun
abbrev Yq25:=BY→(Bool→Oo)→Oo
def yq25 (N:Yq25):Fn1
 | none,[.s (.str a0)],K=>N a0 (fun r0=>K ([.s (.bool r0)],none))
 | _,_,_=>none
abbrev Lq25 (A R:Yq25):Prop:=∀ a0 K r,A a0 K=some r→R a0 K=some r
theorem xq25 {A:Yq25} (hA:Lq25 A fun a0 K=>runK prog (lookG l) nn Lv cut0 big f none [.s (.str a0)] (zq5 K)):FnP G ng g (yq25 A):=spec_run cut0_eq S hl hf hn fun rc cs K r=>by unfold yq25;split;exact fun h=>⟨_,hA _ _ _ h,fun p=>by unfold zq5;split;exact id;nofun⟩;nofun
abbrev Yq26:=Int→BY→(BY→BY→Bool→Oo)→Oo
def yq26 (N:Yq26):Fn1
 | none,[.s (.int .i64 a0),.s (.str a1)],K=>N a0 a1 (fun r0 r1 r2=>K ([.agg (.ss [.str r0,.str r1]),.s (.bool r2)],none))
 | _,_,_=>none
abbrev Lq26 (A R:Yq26):Prop:=∀ a0 a1 K r,A a0 a1 K=some r→R a0 a1 K=some r
theorem xq26 {A:Yq26} (hA:Lq26 A fun a0 a1 K=>runK prog (lookG l) nn Lv cut0 big f none [.s (.int .i64 a0),.s (.str a1)] (zq13 K)):FnP G ng g (yq26 A):=spec_run cut0_eq S hl hf hn fun rc cs K r=>by unfold yq26;split;exact fun h=>⟨_,hA _ _ _ _ h,fun p=>by unfold zq13;split;exact id;nofun⟩;nofun
abbrev Yq27:=Int→BY→(BY→BY→Oo)→Oo
def yq27 (N:Yq27):Fn1
 | none,[.s (.int .i64 a0),.s (.str a1)],K=>N a0 a1 (fun r0 r1=>K ([.agg (.ss [.str r0,.str r1])],none))
 | _,_,_=>none
abbrev Lq27 (A R:Yq27):Prop:=∀ a0 a1 K r,A a0 a1 K=some r→R a0 a1 K=some r
theorem xq27 {A:Yq27} (hA:Lq27 A fun a0 a1 K=>runK prog (lookG l) nn Lv cut0 big f none [.s (.int .i64 a0),.s (.str a1)] (zq14 K)):FnP G ng g (yq27 A):=spec_run cut0_eq S hl hf hn fun rc cs K r=>by unfold yq27;split;exact fun h=>⟨_,hA _ _ _ _ h,fun p=>by unfold zq14;split;exact id;nofun⟩;nofun
abbrev Yq28:=BY→(Int→Bool→BY→BY→Bool→Oo)→Oo
def yq28 (N:Yq28):Fn1
 | none,[.s (.str a0)],K=>N a0 (fun r0 r1 r2 r3 r4=>K ([.agg (.ss [.int .i64 r0,.bool r1,.str r2,.str r3]),.s (.bool r4)],none))
 | _,_,_=>none
abbrev Lq28 (A R:Yq28):Prop:=∀ a0 K r,A a0 K=some r→R a0 K=some r
theorem xq28 {A:Yq28} (hA:Lq28 A fun a0 K=>runK prog (lookG l) nn Lv cut0 big f none [.s (.str a0)] (zq15 K)):FnP G ng g (yq28 A):=spec_run cut0_eq S hl hf hn fun rc cs K r=>by unfold yq28;split;exact fun h=>⟨_,hA _ _ _ h,fun p=>by unfold zq15;split;exact id;nofun⟩;nofun
abbrev Yq29:=Int→Bool→BY→BY→(BY→Oo)→Oo
def yq29 (N:Yq29):Fn1
 | none,[.agg (.ss [.int .i64 a0,.bool a1,.str a2,.str a3])],K=>N a0 a1 a2 a3 (fun r0=>K ([.s (.str r0)],none))
 | _,_,_=>none
abbrev Lq29 (A R:Yq29):Prop:=∀ a0 a1 a2 a3 K r,A a0 a1 a2 a3 K=some r→R a0 a1 a2 a3 K=some r
theorem xq29 {A:Yq29} (hA:Lq29 A fun a0 a1 a2 a3 K=>runK prog (lookG l) nn Lv cut0 big f none [.agg (.ss [.int .i64 a0,.bool a1,.str a2,.str a3])] (zq1 K)):FnP G ng g (yq29 A):=spec_run cut0_eq S hl hf hn fun rc cs K r=>by unfold yq29;split;exact fun h=>⟨_,hA _ _ _ _ _ _ h,fun p=>by unfold zq1;split;exact id;nofun⟩;nofun
abbrev Yq30:=BY→(BY→BY→Oo)→Oo
def yq30 (N:Yq30):Fn1
 | none,[.s (.str a0)],K=>N a0 (fun r0 r1=>K ([.s (.str r0),.s (.str r1)],none))
 | _,_,_=>none
abbrev Lq30 (A R:Yq30):Prop:=∀ a0 K r,A a0 K=some r→R a0 K=some r
theorem xq30 {A:Yq30} (hA:Lq30 A fun a0 K=>runK prog (lookG l) nn Lv cut0 big f none [.s (.str a0)] (zq16 K)):FnP G ng g (yq30 A):=spec_run cut0_eq S hl hf hn fun rc cs K r=>by unfold yq30;split;exact fun h=>⟨_,hA _ _ _ h,fun p=>by unfold zq16;split;exact id;nofun⟩;nofun
abbrev Yq31:=BY→BY→(Bool→Oo)→Oo
def yq31 (N:Yq31):Fn1
 | none,[.s (.str a0),.s (.str a1)],K=>N a0 a1 (fun r0=>K ([.s (.bool r0)],none))
 | _,_,_=>none
abbrev Yq32:=Bool→BY→(BY→Oo)→Oo
def yq32 (N:Yq32):Fn1
 | none,[.s (.bool a0),.s (.str a1)],K=>N a0 a1 (fun r0=>K ([.s (.str r0)],none))
 | _,_,_=>none
abbrev Lq32 (A R:Yq32):Prop:=∀ a0 a1 K r,A a0 a1 K=some r→R a0 a1 K=some r
theorem xq32 {A:Yq32} (hA:Lq32 A fun a0 a1 K=>runK prog (lookG l) nn Lv cut0 big f none [.s (.bool a0),.s (.str a1)] (zq1 K)):FnP G ng g (yq32 A):=spec_run cut0_eq S hl hf hn fun rc cs K r=>by unfold yq32;split;exact fun h=>⟨_,hA _ _ _ _ h,fun p=>by unfold zq1;split;exact id;nofun⟩;nofun
abbrev Yq33:=BY→BY→(Int→Bool→BY→BY→Bool→Oo)→Oo
def yq33 (N:Yq33):Fn1
 | none,[.s (.str a0),.s (.str a1)],K=>N a0 a1 (fun r0 r1 r2 r3 r4=>K ([.agg (.ss [.int .i64 r0,.bool r1,.str r2,.str r3]),.s (.bool r4)],none))
 | _,_,_=>none
abbrev Lq33 (A R:Yq33):Prop:=∀ a0 a1 K r,A a0 a1 K=some r→R a0 a1 K=some r
theorem xq33 {A:Yq33} (hA:Lq33 A fun a0 a1 K=>runK prog (lookG l) nn Lv cut0 big f none [.s (.str a0),.s (.str a1)] (zq15 K)):FnP G ng g (yq33 A):=spec_run cut0_eq S hl hf hn fun rc cs K r=>by unfold yq33;split;exact fun h=>⟨_,hA _ _ _ _ h,fun p=>by unfold zq15;split;exact id;nofun⟩;nofun
abbrev Yq34:=Bool→BY→BY→BY→(Int→Bool→BY→BY→Bool→Oo)→Oo
def yq34 (N:Yq34):Fn1
 | none,[.s (.bool a0),.s (.str a1),.s (.str a2),.s (.str a3)],K=>N a0 a1 a2 a3 (fun r0 r1 r2 r3 r4=>K ([.agg (.ss [.int .i64 r0,.bool r1,.str r2,.str r3]),.s (.bool r4)],none))
 | _,_,_=>none
abbrev Lq34 (A R:Yq34):Prop:=∀ a0 a1 a2 a3 K r,A a0 a1 a2 a3 K=some r→R a0 a1 a2 a3 K=some r
theorem xq34 {A:Yq34} (hA:Lq34 A fun a0 a1 a2 a3 K=>runK prog (lookG l) nn Lv cut0 big f none [.s (.bool a0),.s (.str a1),.s (.str a2),.s (.str a3)] (zq15 K)):FnP G ng g (yq34 A):=spec_run cut0_eq S hl hf hn fun rc cs K r=>by unfold yq34;split;exact fun h=>⟨_,hA _ _ _ _ _ _ h,fun p=>by unfold zq15;split;exact id;nofun⟩;nofun
abbrev Yq35:=Int→(Int→Oo)→Oo
def yq35 (N:Yq35):Fn1
 | none,[.s (.int .u8 a0)],K=>N a0 (fun r0=>K ([.s (.int .i64 r0)],none))
 | _,_,_=>none
abbrev Lq35 (A R:Yq35):Prop:=∀ a0 K r,A a0 K=some r→R a0 K=some r
theorem xq35 {A:Yq35} (hA:Lq35 A fun a0 K=>runK prog (lookG l) nn Lv cut0 big f none [.s (.int .u8 a0)] (zq7 K)):FnP G ng g (yq35 A):=spec_run cut0_eq S hl hf hn fun rc cs K r=>by unfold yq35;split;exact fun h=>⟨_,hA _ _ _ h,fun p=>by unfold zq7;split;exact id;nofun⟩;nofun
abbrev Yq36:=BY→Int→Int→(BY→Oo)→Oo
def yq36 (N:Yq36):Fn1
 | none,[.s (.str a0),.s (.int .i64 a1),.s (.int .i64 a2)],K=>N a0 a1 a2 (fun r0=>K ([.s (.str r0)],none))
 | _,_,_=>none
abbrev Lq36 (A R:Yq36):Prop:=∀ a0 a1 a2 K r,A a0 a1 a2 K=some r→R a0 a1 a2 K=some r
theorem xq36 {A:Yq36} (hA:Lq36 A fun a0 a1 a2 K=>runK prog (lookG l) nn Lv cut0 big f none [.s (.str a0),.s (.int .i64 a1),.s (.int .i64 a2)] (zq1 K)):FnP G ng g (yq36 A):=spec_run cut0_eq S hl hf hn fun rc cs K r=>by unfold yq36;split;exact fun h=>⟨_,hA _ _ _ _ _ h,fun p=>by unfold zq1;split;exact id;nofun⟩;nofun
abbrev Yq37:=Int→(Bool→Oo)→Oo
def yq37 (N:Yq37):Fn1
 | none,[.s (.int .i64 a0)],K=>N a0 (fun r0=>K ([.s (.bool r0)],none))
 | _,_,_=>none
abbrev Lq37 (A R:Yq37):Prop:=∀ a0 K r,A a0 K=some r→R a0 K=some r
theorem xq37 {A:Yq37} (hA:Lq37 A fun a0 K=>runK prog (lookG l) nn Lv cut0 big f none [.s (.int .i64 a0)] (zq5 K)):FnP G ng g (yq37 A):=spec_run cut0_eq S hl hf hn fun rc cs K r=>by unfold yq37;split;exact fun h=>⟨_,hA _ _ _ h,fun p=>by unfold zq5;split;exact id;nofun⟩;nofun
abbrev Yq38:=BY→(Bool→BY→Oo)→Oo
def yq38 (N:Yq38):Fn1
 | none,[.s (.str a0)],K=>N a0 (fun r0 r1=>K ([.s (.bool r0),.s (.str r1)],none))
 | _,_,_=>none
abbrev Lq38 (A R:Yq38):Prop:=∀ a0 K r,A a0 K=some r→R a0 K=some r
theorem xq38 {A:Yq38} (hA:Lq38 A fun a0 K=>runK prog (lookG l) nn Lv cut0 big f none [.s (.str a0)] (zq17 K)):FnP G ng g (yq38 A):=spec_run cut0_eq S hl hf hn fun rc cs K r=>by unfold yq38;split;exact fun h=>⟨_,hA _ _ _ h,fun p=>by unfold zq17;split;exact id;nofun⟩;nofun
abbrev Yq39:=BY→BY→(Int→Oo)→Oo
def yq39 (N:Yq39):Fn1
 | none,[.s (.str a0),.s (.str a1)],K=>N a0 a1 (fun r0=>K ([.s (.int .i64 r0)],none))
 | _,_,_=>none
abbrev Lq39 (A R:Yq39):Prop:=∀ a0 a1 K r,A a0 a1 K=some r→R a0 a1 K=some r
theorem xq39 {A:Yq39} (hA:Lq39 A fun a0 a1 K=>runK prog (lookG l) nn Lv cut0 big f none [.s (.str a0),.s (.str a1)] (zq7 K)):FnP G ng g (yq39 A):=spec_run cut0_eq S hl hf hn fun rc cs K r=>by unfold yq39;split;exact fun h=>⟨_,hA _ _ _ _ h,fun p=>by unfold zq7;split;exact id;nofun⟩;nofun
abbrev Yq40:=BY→BY→(BY→Bool→Oo)→Oo
def yq40 (N:Yq40):Fn1
 | none,[.s (.str a0),.s (.str a1)],K=>N a0 a1 (fun r0 r1=>K ([.s (.str r0),.s (.bool r1)],none))
 | _,_,_=>none
abbrev Yq41:=Int→(Int→Oo)→Oo
def yq41 (N:Yq41):Fn1
 | none,[.s (.int .u64 a0)],K=>N a0 (fun r0=>K ([.s (.int .i64 r0)],none))
 | _,_,_=>none
abbrev Yq42:=(List Int)→Int→Int→Bool→Bool→((List Int)→BY→Oo)→Oo
def wq42 (N:Yq42):Fn1
 | none,[.ro (.ints .u8 a0),.s (.int .u64 a1),.s (.int .i64 a2),.s (.bool a3),.s (.bool a4)],K=>N a0 a1 a2 a3 a4 (fun r0 r1=>K ([.own (.ints .u8 r0),.s (.str r1)],none))
 | _,_,_=>none
def yq42 (N:Yq42):Fn1:=fun rc cs K=>wq42 N rc (nrm [some (.ro (.ints .u8 [])),none,none,none,none] cs) K
abbrev Yq43:=Int→Bool→BY→BY→(Bool→Oo)→Oo
def yq43 (N:Yq43):Fn1
 | none,[.agg (.ss [.int .i64 a0,.bool a1,.str a2,.str a3])],K=>N a0 a1 a2 a3 (fun r0=>K ([.s (.bool r0)],none))
 | _,_,_=>none
abbrev Lq43 (A R:Yq43):Prop:=∀ a0 a1 a2 a3 K r,A a0 a1 a2 a3 K=some r→R a0 a1 a2 a3 K=some r
theorem xq43 {A:Yq43} (hA:Lq43 A fun a0 a1 a2 a3 K=>runK prog (lookG l) nn Lv cut0 big f none [.agg (.ss [.int .i64 a0,.bool a1,.str a2,.str a3])] (zq5 K)):FnP G ng g (yq43 A):=spec_run cut0_eq S hl hf hn fun rc cs K r=>by unfold yq43;split;exact fun h=>⟨_,hA _ _ _ _ _ _ h,fun p=>by unfold zq5;split;exact id;nofun⟩;nofun
abbrev Yq44:=Bool→(Int→Bool→BY→BY→Oo)→Oo
def yq44 (N:Yq44):Fn1
 | none,[.s (.bool a0)],K=>N a0 (fun r0 r1 r2 r3=>K ([.agg (.ss [.int .i64 r0,.bool r1,.str r2,.str r3])],none))
 | _,_,_=>none
abbrev Lq44 (A R:Yq44):Prop:=∀ a0 K r,A a0 K=some r→R a0 K=some r
theorem xq44 {A:Yq44} (hA:Lq44 A fun a0 K=>runK prog (lookG l) nn Lv cut0 big f none [.s (.bool a0)] (zq19 K)):FnP G ng g (yq44 A):=spec_run cut0_eq S hl hf hn fun rc cs K r=>by unfold yq44;split;exact fun h=>⟨_,hA _ _ _ h,fun p=>by unfold zq19;split;exact id;nofun⟩;nofun
abbrev Yq45:=BY→(Int→Oo)→Oo
def yq45 (N:Yq45):Fn1
 | none,[.s (.str a0)],K=>N a0 (fun r0=>K ([.s (.int .i64 r0)],none))
 | _,_,_=>none
abbrev Lq45 (A R:Yq45):Prop:=∀ a0 K r,A a0 K=some r→R a0 K=some r
theorem xq45 {A:Yq45} (hA:Lq45 A fun a0 K=>runK prog (lookG l) nn Lv cut0 big f none [.s (.str a0)] (zq7 K)):FnP G ng g (yq45 A):=spec_run cut0_eq S hl hf hn fun rc cs K r=>by unfold yq45;split;exact fun h=>⟨_,hA _ _ _ h,fun p=>by unfold zq7;split;exact id;nofun⟩;nofun
abbrev Yq46:=BY→BY→BY→(BY→Oo)→Oo
def yq46 (N:Yq46):Fn1
 | none,[.s (.str a0),.s (.str a1),.s (.str a2)],K=>N a0 a1 a2 (fun r0=>K ([.s (.str r0)],none))
 | _,_,_=>none
abbrev Yq47:=BY→BY→((List BY)→Oo)→Oo
def yq47 (N:Yq47):Fn1
 | none,[.s (.str a0),.s (.str a1)],K=>N a0 a1 (fun r0=>K ([.own (.strs r0)],none))
 | _,_,_=>none
abbrev Yq48:=BY→(Int→BY→Int→Oo)→Oo
def yq48 (N:Yq48):Fn1
 | none,[.s (.str a0)],K=>N a0 (fun r0 r1 r2=>K ([.s (.int .i64 r0),.s (.str r1),.s (.int .i64 r2)],none))
 | _,_,_=>none
abbrev Lq48 (A R:Yq48):Prop:=∀ a0 K r,A a0 K=some r→R a0 K=some r
theorem xq48 {A:Yq48} (hA:Lq48 A fun a0 K=>runK prog (lookG l) nn Lv cut0 big f none [.s (.str a0)] (zq21 K)):FnP G ng g (yq48 A):=spec_run cut0_eq S hl hf hn fun rc cs K r=>by unfold yq48;split;exact fun h=>⟨_,hA _ _ _ h,fun p=>by unfold zq21;split;exact id;nofun⟩;nofun
abbrev Yq49:=BY→(Int→Bool→BY→BY→BY→Oo)→Oo
def yq49 (N:Yq49):Fn1
 | none,[.s (.str a0)],K=>N a0 (fun r0 r1 r2 r3 r4=>K ([.agg (.ss [.int .i64 r0,.bool r1,.str r2,.str r3,.str r4])],none))
 | _,_,_=>none
abbrev Lq49 (A R:Yq49):Prop:=∀ a0 K r,A a0 K=some r→R a0 K=some r
theorem xq49 {A:Yq49} (hA:Lq49 A fun a0 K=>runK prog (lookG l) nn Lv cut0 big f none [.s (.str a0)] (zq22 K)):FnP G ng g (yq49 A):=spec_run cut0_eq S hl hf hn fun rc cs K r=>by unfold yq49;split;exact fun h=>⟨_,hA _ _ _ h,fun p=>by unfold zq22;split;exact id;nofun⟩;nofun
abbrev Yq50:=BY→Bool→(Int→Oo)→Oo
def yq50 (N:Yq50):Fn1
 | none,[.s (.str a0),.s (.bool a1)],K=>N a0 a1 (fun r0=>K ([.s (.int .i64 r0)],none))
 | _,_,_=>none
abbrev Lq50 (A R:Yq50):Prop:=∀ a0 a1 K r,A a0 a1 K=some r→R a0 a1 K=some r
theorem xq50 {A:Yq50} (hA:Lq50 A fun a0 a1 K=>runK prog (lookG l) nn Lv cut0 big f none [.s (.str a0),.s (.bool a1)] (zq7 K)):FnP G ng g (yq50 A):=spec_run cut0_eq S hl hf hn fun rc cs K r=>by unfold yq50;split;exact fun h=>⟨_,hA _ _ _ _ h,fun p=>by unfold zq7;split;exact id;nofun⟩;nofun
abbrev Yq51:=Int→BY→BY→(BY→Bool→Oo)→Oo
def yq51 (N:Yq51):Fn1
 | none,[.s (.int .i64 a0),.s (.str a1),.s (.str a2)],K=>N a0 a1 a2 (fun r0 r1=>K ([.s (.str r0),.s (.bool r1)],none))
 | _,_,_=>none
abbrev Lq51 (A R:Yq51):Prop:=∀ a0 a1 a2 K r,A a0 a1 a2 K=some r→R a0 a1 a2 K=some r
theorem xq51 {A:Yq51} (hA:Lq51 A fun a0 a1 a2 K=>runK prog (lookG l) nn Lv cut0 big f none [.s (.int .i64 a0),.s (.str a1),.s (.str a2)] (zq9 K)):FnP G ng g (yq51 A):=spec_run cut0_eq S hl hf hn fun rc cs K r=>by unfold yq51;split;exact fun h=>⟨_,hA _ _ _ _ _ h,fun p=>by unfold zq9;split;exact id;nofun⟩;nofun
abbrev Yq52:=Bool→(BY→Oo)→Oo
def yq52 (N:Yq52):Fn1
 | none,[.s (.bool a0)],K=>N a0 (fun r0=>K ([.s (.str r0)],none))
 | _,_,_=>none
abbrev Lq52 (A R:Yq52):Prop:=∀ a0 K r,A a0 K=some r→R a0 K=some r
theorem xq52 {A:Yq52} (hA:Lq52 A fun a0 K=>runK prog (lookG l) nn Lv cut0 big f none [.s (.bool a0)] (zq1 K)):FnP G ng g (yq52 A):=spec_run cut0_eq S hl hf hn fun rc cs K r=>by unfold yq52;split;exact fun h=>⟨_,hA _ _ _ h,fun p=>by unfold zq1;split;exact id;nofun⟩;nofun
abbrev Yq53:=BY→(BY→Int→Oo)→Oo
def yq53 (N:Yq53):Fn1
 | none,[.s (.str a0)],K=>N a0 (fun r0 r1=>K ([.s (.str r0),.s (.int .i64 r1)],none))
 | _,_,_=>none
abbrev Lq53 (A R:Yq53):Prop:=∀ a0 K r,A a0 K=some r→R a0 K=some r
theorem xq53 {A:Yq53} (hA:Lq53 A fun a0 K=>runK prog (lookG l) nn Lv cut0 big f none [.s (.str a0)] (zq23 K)):FnP G ng g (yq53 A):=spec_run cut0_eq S hl hf hn fun rc cs K r=>by unfold yq53;split;exact fun h=>⟨_,hA _ _ _ h,fun p=>by unfold zq23;split;exact id;nofun⟩;nofun
abbrev Yq54:=BY→(Int→Bool→BY→BY→Int→Oo)→Oo
def yq54 (N:Yq54):Fn1
 | none,[.s (.str a0)],K=>N a0 (fun r0 r1 r2 r3 r4=>K ([.agg (.ss [.int .i64 r0,.bool r1,.str r2,.str r3]),.s (.int .i64 r4)],none))
 | _,_,_=>none
abbrev Lq54 (A R:Yq54):Prop:=∀ a0 K r,A a0 K=some r→R a0 K=some r
theorem xq54 {A:Yq54} (hA:Lq54 A fun a0 K=>runK prog (lookG l) nn Lv cut0 big f none [.s (.str a0)] (zq24 K)):FnP G ng g (yq54 A):=spec_run cut0_eq S hl hf hn fun rc cs K r=>by unfold yq54;split;exact fun h=>⟨_,hA _ _ _ h,fun p=>by unfold zq24;split;exact id;nofun⟩;nofun
abbrev Yq55:=BY→Int→(BY→Bool→Oo)→Oo
def yq55 (N:Yq55):Fn1
 | none,[.s (.str a0),.s (.int .i64 a1)],K=>N a0 a1 (fun r0 r1=>K ([.s (.str r0),.s (.bool r1)],none))
 | _,_,_=>none
abbrev Lq55 (A R:Yq55):Prop:=∀ a0 a1 K r,A a0 a1 K=some r→R a0 a1 K=some r
theorem xq55 {A:Yq55} (hA:Lq55 A fun a0 a1 K=>runK prog (lookG l) nn Lv cut0 big f none [.s (.str a0),.s (.int .i64 a1)] (zq9 K)):FnP G ng g (yq55 A):=spec_run cut0_eq S hl hf hn fun rc cs K r=>by unfold yq55;split;exact fun h=>⟨_,hA _ _ _ _ h,fun p=>by unfold zq9;split;exact id;nofun⟩;nofun
abbrev Yq56:=BY→Bool→Bool→(Int→Bool→BY→BY→Bool→Oo)→Oo
def yq56 (N:Yq56):Fn1
 | none,[.s (.str a0),.s (.bool a1),.s (.bool a2)],K=>N a0 a1 a2 (fun r0 r1 r2 r3 r4=>K ([.agg (.ss [.int .i64 r0,.bool r1,.str r2,.str r3]),.s (.bool r4)],none))
 | _,_,_=>none
abbrev Lq56 (A R:Yq56):Prop:=∀ a0 a1 a2 K r,A a0 a1 a2 K=some r→R a0 a1 a2 K=some r
theorem xq56 {A:Yq56} (hA:Lq56 A fun a0 a1 a2 K=>runK prog (lookG l) nn Lv cut0 big f none [.s (.str a0),.s (.bool a1),.s (.bool a2)] (zq15 K)):FnP G ng g (yq56 A):=spec_run cut0_eq S hl hf hn fun rc cs K r=>by unfold yq56;split;exact fun h=>⟨_,hA _ _ _ _ _ h,fun p=>by unfold zq15;split;exact id;nofun⟩;nofun
abbrev Yq57:=BY→Bool→(BY→Bool→Oo)→Oo
def yq57 (N:Yq57):Fn1
 | none,[.s (.str a0),.s (.bool a1)],K=>N a0 a1 (fun r0 r1=>K ([.s (.str r0),.s (.bool r1)],none))
 | _,_,_=>none
abbrev Lq57 (A R:Yq57):Prop:=∀ a0 a1 K r,A a0 a1 K=some r→R a0 a1 K=some r
theorem xq57 {A:Yq57} (hA:Lq57 A fun a0 a1 K=>runK prog (lookG l) nn Lv cut0 big f none [.s (.str a0),.s (.bool a1)] (zq9 K)):FnP G ng g (yq57 A):=spec_run cut0_eq S hl hf hn fun rc cs K r=>by unfold yq57;split;exact fun h=>⟨_,hA _ _ _ _ h,fun p=>by unfold zq9;split;exact id;nofun⟩;nofun
abbrev Yq58:=(List Int)→(BY→Oo)→Oo
def wq58 (N:Yq58):Fn1
 | none,[.ro (.ints .u8 a0)],K=>N a0 (fun r0=>K ([.s (.str r0)],none))
 | _,_,_=>none
def yq58 (N:Yq58):Fn1:=fun rc cs K=>wq58 N rc (nrm [some (.ro (.ints .u8 []))] cs) K
abbrev Lq58 (A R:Yq58):Prop:=∀ a0 K r,A a0 K=some r→R a0 K=some r
theorem xq58 {A:Yq58} (hA:Lq58 A fun a0 K=>runK prog (lookG l) nn Lv cut0 big f none [.ro (.ints .u8 a0)] (zq1 K)):FnP G ng g (yq58 A):=FnIs.norm (hd:=by rfl) (A:=wq58 A) (spec_run cut0_eq S hl hf hn fun rc cs K r=>by unfold wq58;split;exact fun h=>⟨_,hA _ _ _ h,fun p=>by unfold zq1;split;exact id;nofun⟩;nofun)
abbrev Yq59:=BY→((List Int)→Bool→Oo)→Oo
def yq59 (N:Yq59):Fn1
 | none,[.s (.str a0)],K=>N a0 (fun r0 r1=>K ([.own (.ints .u8 r0),.s (.bool r1)],none))
 | _,_,_=>none
abbrev Lq59 (A R:Yq59):Prop:=∀ a0 K r,A a0 K=some r→R a0 K=some r
theorem xq59 {A:Yq59} (hA:Lq59 A fun a0 K=>runK prog (lookG l) nn Lv cut0 big f none [.s (.str a0)] (zq25 K)):FnP G ng g (yq59 A):=spec_run cut0_eq S hl hf hn fun rc cs K r=>by unfold yq59;split;exact fun h=>⟨_,hA _ _ _ h,fun p=>by unfold zq25;split;exact id;nofun⟩;nofun
abbrev Yq60:=(Bool→Oo)→Oo
def yq60 (N:Yq60):Fn1
 | none,[],K=>N (fun r0=>K ([.s (.bool r0)],none))
 | _,_,_=>none
abbrev Lq60 (A R:Yq60):Prop:=∀ K r,A K=some r→R K=some r
theorem xq60 {A:Yq60} (hA:Lq60 A fun K=>runK prog (lookG l) nn Lv cut0 big f none [] (zq5 K)):FnP G ng g (yq60 A):=spec_run cut0_eq S hl hf hn fun rc cs K r=>by unfold yq60;split;exact fun h=>⟨_,hA _ _ h,fun p=>by unfold zq5;split;exact id;nofun⟩;nofun
abbrev Yq62:=Bool→(Int→Oo)→Oo
def yq62 (N:Yq62):Fn1
 | none,[.s (.bool a0)],K=>N a0 (fun r0=>K ([.s (.int .i64 r0)],none))
 | _,_,_=>none
abbrev Lq62 (A R:Yq62):Prop:=∀ a0 K r,A a0 K=some r→R a0 K=some r
theorem xq62 {A:Yq62} (hA:Lq62 A fun a0 K=>runK prog (lookG l) nn Lv cut0 big f none [.s (.bool a0)] (zq7 K)):FnP G ng g (yq62 A):=spec_run cut0_eq S hl hf hn fun rc cs K r=>by unfold yq62;split;exact fun h=>⟨_,hA _ _ _ h,fun p=>by unfold zq7;split;exact id;nofun⟩;nofun
abbrev Yq66:=Int→(BY→Oo)→Oo
def yq66 (N:Yq66):Fn1
 | none,[.s (.int .u8 a0)],K=>N a0 (fun r0=>K ([.s (.str r0)],none))
 | _,_,_=>none
abbrev Lq66 (A R:Yq66):Prop:=∀ a0 K r,A a0 K=some r→R a0 K=some r
theorem xq66 {A:Yq66} (hA:Lq66 A fun a0 K=>runK prog (lookG l) nn Lv cut0 big f none [.s (.int .u8 a0)] (zq1 K)):FnP G ng g (yq66 A):=spec_run cut0_eq S hl hf hn fun rc cs K r=>by unfold yq66;split;exact fun h=>⟨_,hA _ _ _ h,fun p=>by unfold zq1;split;exact id;nofun⟩;nofun
abbrev Yq67:=Int→BY→BY→Bool→(BY→BY→Bool→Oo)→Oo
def yq67 (N:Yq67):Fn1
 | none,[.s (.int .i64 a0),.s (.str a1),.s (.str a2),.s (.bool a3)],K=>N a0 a1 a2 a3 (fun r0 r1 r2=>K ([.agg (.ss [.str r0,.str r1]),.s (.bool r2)],none))
 | _,_,_=>none
abbrev Lq67 (A R:Yq67):Prop:=∀ a0 a1 a2 a3 K r,A a0 a1 a2 a3 K=some r→R a0 a1 a2 a3 K=some r
theorem xq67 {A:Yq67} (hA:Lq67 A fun a0 a1 a2 a3 K=>runK prog (lookG l) nn Lv cut0 big f none [.s (.int .i64 a0),.s (.str a1),.s (.str a2),.s (.bool a3)] (zq13 K)):FnP G ng g (yq67 A):=spec_run cut0_eq S hl hf hn fun rc cs K r=>by unfold yq67;split;exact fun h=>⟨_,hA _ _ _ _ _ _ h,fun p=>by unfold zq13;split;exact id;nofun⟩;nofun
abbrev Yq71:=Bool→BY→(List Int)→Int→(Bool→Oo)→Oo
def wq71 (N:Yq71):Fn1
 | none,[.s (.bool a0),.s (.str a1),.ro (.ints .u8 a2),.s (.int .u8 a3)],K=>N a0 a1 a2 a3 (fun r0=>K ([.s (.bool r0)],none))
 | _,_,_=>none
def yq71 (N:Yq71):Fn1:=fun rc cs K=>wq71 N rc (nrm [none,none,some (.ro (.ints .u8 [])),none] cs) K
abbrev Lq71 (A R:Yq71):Prop:=∀ a0 a1 a2 a3 K r,A a0 a1 a2 a3 K=some r→R a0 a1 a2 a3 K=some r
theorem xq71 {A:Yq71} (hA:Lq71 A fun a0 a1 a2 a3 K=>runK prog (lookG l) nn Lv cut0 big f none [.s (.bool a0),.s (.str a1),.ro (.ints .u8 a2),.s (.int .u8 a3)] (zq5 K)):FnP G ng g (yq71 A):=FnIs.norm (hd:=by rfl) (A:=wq71 A) (spec_run cut0_eq S hl hf hn fun rc cs K r=>by unfold wq71;split;exact fun h=>⟨_,hA _ _ _ _ _ _ h,fun p=>by unfold zq5;split;exact id;nofun⟩;nofun)
abbrev Yq72:=Int→BY→(BY→Bool→Oo)→Oo
def yq72 (N:Yq72):Fn1
 | none,[.s (.int .i64 a0),.s (.str a1)],K=>N a0 a1 (fun r0 r1=>K ([.s (.str r0),.s (.bool r1)],none))
 | _,_,_=>none
abbrev Lq72 (A R:Yq72):Prop:=∀ a0 a1 K r,A a0 a1 K=some r→R a0 a1 K=some r
theorem xq72 {A:Yq72} (hA:Lq72 A fun a0 a1 K=>runK prog (lookG l) nn Lv cut0 big f none [.s (.int .i64 a0),.s (.str a1)] (zq9 K)):FnP G ng g (yq72 A):=spec_run cut0_eq S hl hf hn fun rc cs K r=>by unfold yq72;split;exact fun h=>⟨_,hA _ _ _ _ h,fun p=>by unfold zq9;split;exact id;nofun⟩;nofun
abbrev Yq73:=((List Int)→Oo)→Oo
def yq73 (N:Yq73):Fn1
 | none,[],K=>N (fun r0=>K ([.agg (.ints .u8 r0)],none))
 | _,_,_=>none
abbrev Lq73 (A R:Yq73):Prop:=∀ K r,A K=some r→R K=some r
theorem xq73 {A:Yq73} (hA:Lq73 A fun K=>runK prog (lookG l) nn Lv cut0 big f none [] (zq26 K)):FnP G ng g (yq73 A):=spec_run cut0_eq S hl hf hn fun rc cs K r=>by unfold yq73;split;exact fun h=>⟨_,hA _ _ h,fun p=>by unfold zq26;split;exact id;nofun⟩;nofun
abbrev Yq74:=Bool→BY→BY→(Bool→Oo)→Oo
def yq74 (N:Yq74):Fn1
 | none,[.s (.bool a0),.s (.str a1),.s (.str a2)],K=>N a0 a1 a2 (fun r0=>K ([.s (.bool r0)],none))
 | _,_,_=>none
abbrev Lq74 (A R:Yq74):Prop:=∀ a0 a1 a2 K r,A a0 a1 a2 K=some r→R a0 a1 a2 K=some r
theorem xq74 {A:Yq74} (hA:Lq74 A fun a0 a1 a2 K=>runK prog (lookG l) nn Lv cut0 big f none [.s (.bool a0),.s (.str a1),.s (.str a2)] (zq5 K)):FnP G ng g (yq74 A):=spec_run cut0_eq S hl hf hn fun rc cs K r=>by unfold yq74;split;exact fun h=>⟨_,hA _ _ _ _ _ h,fun p=>by unfold zq5;split;exact id;nofun⟩;nofun
abbrev Yq75:=Bool→BY→BY→(List Int)→(Bool→Oo)→Oo
def wq75 (N:Yq75):Fn1
 | none,[.s (.bool a0),.s (.str a1),.s (.str a2),.ro (.ints .u8 a3)],K=>N a0 a1 a2 a3 (fun r0=>K ([.s (.bool r0)],none))
 | _,_,_=>none
def yq75 (N:Yq75):Fn1:=fun rc cs K=>wq75 N rc (nrm [none,none,none,some (.ro (.ints .u8 []))] cs) K
abbrev Lq75 (A R:Yq75):Prop:=∀ a0 a1 a2 a3 K r,A a0 a1 a2 a3 K=some r→R a0 a1 a2 a3 K=some r
theorem xq75 {A:Yq75} (hA:Lq75 A fun a0 a1 a2 a3 K=>runK prog (lookG l) nn Lv cut0 big f none [.s (.bool a0),.s (.str a1),.s (.str a2),.ro (.ints .u8 a3)] (zq5 K)):FnP G ng g (yq75 A):=FnIs.norm (hd:=by rfl) (A:=wq75 A) (spec_run cut0_eq S hl hf hn fun rc cs K r=>by unfold wq75;split;exact fun h=>⟨_,hA _ _ _ _ _ _ h,fun p=>by unfold zq5;split;exact id;nofun⟩;nofun)
abbrev Yq76:=Bool→BY→BY→(Int→BY→Bool→Oo)→Oo
def yq76 (N:Yq76):Fn1
 | none,[.s (.bool a0),.s (.str a1),.s (.str a2)],K=>N a0 a1 a2 (fun r0 r1 r2=>K ([.s (.int .i64 r0),.s (.str r1),.s (.bool r2)],none))
 | _,_,_=>none
abbrev Lq76 (A R:Yq76):Prop:=∀ a0 a1 a2 K r,A a0 a1 a2 K=some r→R a0 a1 a2 K=some r
theorem xq76 {A:Yq76} (hA:Lq76 A fun a0 a1 a2 K=>runK prog (lookG l) nn Lv cut0 big f none [.s (.bool a0),.s (.str a1),.s (.str a2)] (zq27 K)):FnP G ng g (yq76 A):=spec_run cut0_eq S hl hf hn fun rc cs K r=>by unfold yq76;split;exact fun h=>⟨_,hA _ _ _ _ _ h,fun p=>by unfold zq27;split;exact id;nofun⟩;nofun
abbrev Yq77:=BY→(List Int)→(Bool→Oo)→Oo
def wq77 (N:Yq77):Fn1
 | none,[.s (.str a0),.ro (.ints .u8 a1)],K=>N a0 a1 (fun r0=>K ([.s (.bool r0)],none))
 | _,_,_=>none
def yq77 (N:Yq77):Fn1:=fun rc cs K=>wq77 N rc (nrm [none,some (.ro (.ints .u8 []))] cs) K
abbrev Lq77 (A R:Yq77):Prop:=∀ a0 a1 K r,A a0 a1 K=some r→R a0 a1 K=some r
theorem xq77 {A:Yq77} (hA:Lq77 A fun a0 a1 K=>runK prog (lookG l) nn Lv cut0 big f none [.s (.str a0),.ro (.ints .u8 a1)] (zq5 K)):FnP G ng g (yq77 A):=FnIs.norm (hd:=by rfl) (A:=wq77 A) (spec_run cut0_eq S hl hf hn fun rc cs K r=>by unfold wq77;split;exact fun h=>⟨_,hA _ _ _ _ h,fun p=>by unfold zq5;split;exact id;nofun⟩;nofun)
abbrev Yq78:=Bool→BY→BY→Int→(List Int)→(Bool→Oo)→Oo
def wq78 (N:Yq78):Fn1
 | none,[.s (.bool a0),.s (.str a1),.s (.str a2),.s (.int .u8 a3),.ro (.ints .u8 a4)],K=>N a0 a1 a2 a3 a4 (fun r0=>K ([.s (.bool r0)],none))
 | _,_,_=>none
def yq78 (N:Yq78):Fn1:=fun rc cs K=>wq78 N rc (nrm [none,none,none,none,some (.ro (.ints .u8 []))] cs) K
abbrev Lq78 (A R:Yq78):Prop:=∀ a0 a1 a2 a3 a4 K r,A a0 a1 a2 a3 a4 K=some r→R a0 a1 a2 a3 a4 K=some r
theorem xq78 {A:Yq78} (hA:Lq78 A fun a0 a1 a2 a3 a4 K=>runK prog (lookG l) nn Lv cut0 big f none [.s (.bool a0),.s (.str a1),.s (.str a2),.s (.int .u8 a3),.ro (.ints .u8 a4)] (zq5 K)):FnP G ng g (yq78 A):=FnIs.norm (hd:=by rfl) (A:=wq78 A) (spec_run cut0_eq S hl hf hn fun rc cs K r=>by unfold wq78;split;exact fun h=>⟨_,hA _ _ _ _ _ _ _ h,fun p=>by unfold zq5;split;exact id;nofun⟩;nofun)
abbrev Yq79:=BY→BY→BY→(Int→BY→Oo)→Oo
def yq79 (N:Yq79):Fn1
 | none,[.agg (.ss [.str a0,.str a1]),.s (.str a2)],K=>N a0 a1 a2 (fun r0 r1=>K ([.s (.int .i64 r0),.s (.str r1)],none))
 | _,_,_=>none
abbrev Lq79 (A R:Yq79):Prop:=∀ a0 a1 a2 K r,A a0 a1 a2 K=some r→R a0 a1 a2 K=some r
theorem xq79 {A:Yq79} (hA:Lq79 A fun a0 a1 a2 K=>runK prog (lookG l) nn Lv cut0 big f none [.agg (.ss [.str a0,.str a1]),.s (.str a2)] (zq28 K)):FnP G ng g (yq79 A):=spec_run cut0_eq S hl hf hn fun rc cs K r=>by unfold yq79;split;exact fun h=>⟨_,hA _ _ _ _ _ h,fun p=>by unfold zq28;split;exact id;nofun⟩;nofun
abbrev Yq80:=BY→BY→(BY→Oo)→Oo
def yq80 (N:Yq80):Fn1
 | none,[.agg (.ss [.str a0,.str a1])],K=>N a0 a1 (fun r0=>K ([.s (.str r0)],none))
 | _,_,_=>none
abbrev Lq80 (A R:Yq80):Prop:=∀ a0 a1 K r,A a0 a1 K=some r→R a0 a1 K=some r
theorem xq80 {A:Yq80} (hA:Lq80 A fun a0 a1 K=>runK prog (lookG l) nn Lv cut0 big f none [.agg (.ss [.str a0,.str a1])] (zq1 K)):FnP G ng g (yq80 A):=spec_run cut0_eq S hl hf hn fun rc cs K r=>by unfold yq80;split;exact fun h=>⟨_,hA _ _ _ _ h,fun p=>by unfold zq1;split;exact id;nofun⟩;nofun
abbrev Yq81:=Int→BY→(Int→Oo)→Oo
def yq81 (N:Yq81):Fn1
 | none,[.s (.int .i64 a0),.s (.str a1)],K=>N a0 a1 (fun r0=>K ([.s (.int .i64 r0)],none))
 | _,_,_=>none
abbrev Lq81 (A R:Yq81):Prop:=∀ a0 a1 K r,A a0 a1 K=some r→R a0 a1 K=some r
theorem xq81 {A:Yq81} (hA:Lq81 A fun a0 a1 K=>runK prog (lookG l) nn Lv cut0 big f none [.s (.int .i64 a0),.s (.str a1)] (zq7 K)):FnP G ng g (yq81 A):=spec_run cut0_eq S hl hf hn fun rc cs K r=>by unfold yq81;split;exact fun h=>⟨_,hA _ _ _ _ h,fun p=>by unfold zq7;split;exact id;nofun⟩;nofun
abbrev Yq82:=Int→(Int→Oo)→Oo
def yq82 (N:Yq82):Fn1
 | none,[.s (.int .i32 a0)],K=>N a0 (fun r0=>K ([.s (.int .u8 r0)],none))
 | _,_,_=>none
abbrev Lq82 (A R:Yq82):Prop:=∀ a0 K r,A a0 K=some r→R a0 K=some r
theorem xq82 {A:Yq82} (hA:Lq82 A fun a0 K=>runK prog (lookG l) nn Lv cut0 big f none [.s (.int .i32 a0)] (zq29 K)):FnP G ng g (yq82 A):=spec_run cut0_eq S hl hf hn fun rc cs K r=>by unfold yq82;split;exact fun h=>⟨_,hA _ _ _ h,fun p=>by unfold zq29;split;exact id;nofun⟩;nofun
abbrev Yq83:=BY→(Int→Int→Oo)→Oo
def yq83 (N:Yq83):Fn1
 | none,[.s (.str a0)],K=>N a0 (fun r0 r1=>K ([.s (.int .i32 r0),.s (.int .i64 r1)],none))
 | _,_,_=>none
abbrev Lq83 (A R:Yq83):Prop:=∀ a0 K r,A a0 K=some r→R a0 K=some r
theorem xq83 {A:Yq83} (hA:Lq83 A fun a0 K=>runK prog (lookG l) nn Lv cut0 big f none [.s (.str a0)] (zq30 K)):FnP G ng g (yq83 A):=spec_run cut0_eq S hl hf hn fun rc cs K r=>by unfold yq83;split;exact fun h=>⟨_,hA _ _ _ h,fun p=>by unfold zq30;split;exact id;nofun⟩;nofun
abbrev Yq84:=Int→(Bool→Oo)→Oo
def yq84 (N:Yq84):Fn1
 | none,[.s (.int .i32 a0)],K=>N a0 (fun r0=>K ([.s (.bool r0)],none))
 | _,_,_=>none
abbrev Lq84 (A R:Yq84):Prop:=∀ a0 K r,A a0 K=some r→R a0 K=some r
theorem xq84 {A:Yq84} (hA:Lq84 A fun a0 K=>runK prog (lookG l) nn Lv cut0 big f none [.s (.int .i32 a0)] (zq5 K)):FnP G ng g (yq84 A):=spec_run cut0_eq S hl hf hn fun rc cs K r=>by unfold yq84;split;exact fun h=>⟨_,hA _ _ _ h,fun p=>by unfold zq5;split;exact id;nofun⟩;nofun
abbrev Yq85:=BY→Int→(Int→Oo)→Oo
def yq85 (N:Yq85):Fn1
 | none,[.s (.str a0),.s (.int .i64 a1)],K=>N a0 a1 (fun r0=>K ([.s (.int .i64 r0)],none))
 | _,_,_=>none
abbrev Lq85 (A R:Yq85):Prop:=∀ a0 a1 K r,A a0 a1 K=some r→R a0 a1 K=some r
theorem xq85 {A:Yq85} (hA:Lq85 A fun a0 a1 K=>runK prog (lookG l) nn Lv cut0 big f none [.s (.str a0),.s (.int .i64 a1)] (zq7 K)):FnP G ng g (yq85 A):=spec_run cut0_eq S hl hf hn fun rc cs K r=>by unfold yq85;split;exact fun h=>⟨_,hA _ _ _ _ h,fun p=>by unfold zq7;split;exact id;nofun⟩;nofun
abbrev Yq86:=Int→(Int→Oo)→Oo
def yq86 (N:Yq86):Fn1
 | none,[.s (.int .i64 a0)],K=>N a0 (fun r0=>K ([.s (.int .i64 r0)],none))
 | _,_,_=>none
abbrev Lq86 (A R:Yq86):Prop:=∀ a0 K r,A a0 K=some r→R a0 K=some r
theorem xq86 {A:Yq86} (hA:Lq86 A fun a0 K=>runK prog (lookG l) nn Lv cut0 big f none [.s (.int .i64 a0)] (zq7 K)):FnP G ng g (yq86 A):=spec_run cut0_eq S hl hf hn fun rc cs K r=>by unfold yq86;split;exact fun h=>⟨_,hA _ _ _ h,fun p=>by unfold zq7;split;exact id;nofun⟩;nofun
abbrev Yq87:=BY→Int→(Int→Int→Oo)→Oo
def yq87 (N:Yq87):Fn1
 | none,[.s (.str a0),.s (.int .i64 a1)],K=>N a0 a1 (fun r0 r1=>K ([.s (.int .i64 r0),.s (.int .i64 r1)],none))
 | _,_,_=>none
abbrev Lq87 (A R:Yq87):Prop:=∀ a0 a1 K r,A a0 a1 K=some r→R a0 a1 K=some r
theorem xq87 {A:Yq87} (hA:Lq87 A fun a0 a1 K=>runK prog (lookG l) nn Lv cut0 big f none [.s (.str a0),.s (.int .i64 a1)] (zq10 K)):FnP G ng g (yq87 A):=spec_run cut0_eq S hl hf hn fun rc cs K r=>by unfold yq87;split;exact fun h=>⟨_,hA _ _ _ _ h,fun p=>by unfold zq10;split;exact id;nofun⟩;nofun
abbrev Yq88:=Int→BY→Int→(BY→Int→Int→Int→Oo)→Oo
def yq88 (N:Yq88):Fn1
 | none,[.s (.int .i64 a0),.s (.str a1),.s (.int .i64 a2)],K=>N a0 a1 a2 (fun r0 r1 r2 r3=>K ([.s (.str r0),.s (.int .i64 r1),.agg (.ss [.int .i64 r2,.int .i64 r3])],none))
 | _,_,_=>none
abbrev Lq88 (A R:Yq88):Prop:=∀ a0 a1 a2 K r,A a0 a1 a2 K=some r→R a0 a1 a2 K=some r
theorem xq88 {A:Yq88} (hA:Lq88 A fun a0 a1 a2 K=>runK prog (lookG l) nn Lv cut0 big f none [.s (.int .i64 a0),.s (.str a1),.s (.int .i64 a2)] (zq31 K)):FnP G ng g (yq88 A):=spec_run cut0_eq S hl hf hn fun rc cs K r=>by unfold yq88;split;exact fun h=>⟨_,hA _ _ _ _ _ h,fun p=>by unfold zq31;split;exact id;nofun⟩;nofun
abbrev Yq89:=BY→Int→(Bool→BY→BY→Int→Bool→Oo)→Oo
def yq89 (N:Yq89):Fn1
 | none,[.s (.str a0),.s (.int .i64 a1)],K=>N a0 a1 (fun r0 r1 r2 r3 r4=>K ([.agg (.ss [.bool r0,.str r1,.str r2]),.s (.int .i64 r3),.s (.bool r4)],none))
 | _,_,_=>none
abbrev Lq89 (A R:Yq89):Prop:=∀ a0 a1 K r,A a0 a1 K=some r→R a0 a1 K=some r
theorem xq89 {A:Yq89} (hA:Lq89 A fun a0 a1 K=>runK prog (lookG l) nn Lv cut0 big f none [.s (.str a0),.s (.int .i64 a1)] (zq32 K)):FnP G ng g (yq89 A):=spec_run cut0_eq S hl hf hn fun rc cs K r=>by unfold yq89;split;exact fun h=>⟨_,hA _ _ _ _ h,fun p=>by unfold zq32;split;exact id;nofun⟩;nofun
abbrev Yq90:=Bool→BY→BY→(BY→Bool→Oo)→Oo
def yq90 (N:Yq90):Fn1
 | none,[.agg (.ss [.bool a0,.str a1,.str a2]),.s .nils],K=>N a0 a1 a2 (fun r0 r1=>K ([.s (.str r0),.s (.bool r1)],none))
 | _,_,_=>none
abbrev Lq90 (A R:Yq90):Prop:=∀ a0 a1 a2 K r,A a0 a1 a2 K=some r→R a0 a1 a2 K=some r
theorem xq90 {A:Yq90} (hA:Lq90 A fun a0 a1 a2 K=>runK prog (lookG l) nn Lv cut0 big f none [.agg (.ss [.bool a0,.str a1,.str a2]),.s .nils] (zq9 K)):FnP G ng g (yq90 A):=spec_run cut0_eq S hl hf hn fun rc cs K r=>by unfold yq90;split;exact fun h=>⟨_,hA _ _ _ _ _ h,fun p=>by unfold zq9;split;exact id;nofun⟩;nofun
abbrev Yq91:=Bool→BY→Int→(List Int)→(Bool→Oo)→Oo
def wq91 (N:Yq91):Fn1
 | none,[.s (.bool a0),.s (.str a1),.s (.int .u8 a2),.ro (.ints .u8 a3)],K=>N a0 a1 a2 a3 (fun r0=>K ([.s (.bool r0)],none))
 | _,_,_=>none
def yq91 (N:Yq91):Fn1:=fun rc cs K=>wq91 N rc (nrm [none,none,none,some (.ro (.ints .u8 []))] cs) K
abbrev Lq91 (A R:Yq91):Prop:=∀ a0 a1 a2 a3 K r,A a0 a1 a2 a3 K=some r→R a0 a1 a2 a3 K=some r
theorem xq91 {A:Yq91} (hA:Lq91 A fun a0 a1 a2 a3 K=>runK prog (lookG l) nn Lv cut0 big f none [.s (.bool a0),.s (.str a1),.s (.int .u8 a2),.ro (.ints .u8 a3)] (zq5 K)):FnP G ng g (yq91 A):=FnIs.norm (hd:=by rfl) (A:=wq91 A) (spec_run cut0_eq S hl hf hn fun rc cs K r=>by unfold wq91;split;exact fun h=>⟨_,hA _ _ _ _ _ _ h,fun p=>by unfold zq5;split;exact id;nofun⟩;nofun)
abbrev Yq92:=Int→BY→Int→(Int→Oo)→Oo
def yq92 (N:Yq92):Fn1
 | none,[.s (.int .i64 a0),.s (.str a1),.s (.int .i64 a2)],K=>N a0 a1 a2 (fun r0=>K ([.s (.int .i64 r0)],none))
 | _,_,_=>none
abbrev Lq92 (A R:Yq92):Prop:=∀ a0 a1 a2 K r,A a0 a1 a2 K=some r→R a0 a1 a2 K=some r
theorem xq92 {A:Yq92} (hA:Lq92 A fun a0 a1 a2 K=>runK prog (lookG l) nn Lv cut0 big f none [.s (.int .i64 a0),.s (.str a1),.s (.int .i64 a2)] (zq7 K)):FnP G ng g (yq92 A):=spec_run cut0_eq S hl hf hn fun rc cs K r=>by unfold yq92;split;exact fun h=>⟨_,hA _ _ _ _ _ h,fun p=>by unfold zq7;split;exact id;nofun⟩;nofun
abbrev Yq93:=Int→BY→Int→(Int→Int→Int→Int→Oo)→Oo
def yq93 (N:Yq93):Fn1
 | none,[.s (.int .i64 a0),.s (.str a1),.s (.int .i64 a2)],K=>N a0 a1 a2 (fun r0 r1 r2 r3=>K ([.s (.int .i64 r0),.s (.int .i64 r1),.agg (.ss [.int .i64 r2,.int .i64 r3])],none))
 | _,_,_=>none
abbrev Yq94:=Int→BY→Int→(Int→Int→Oo)→Oo
def yq94 (N:Yq94):Fn1
 | none,[.s (.int .i64 a0),.s (.str a1),.s (.int .i64 a2)],K=>N a0 a1 a2 (fun r0 r1=>K ([.s (.int .i64 r0),.s (.int .i64 r1)],none))
 | _,_,_=>none
abbrev Yq95:=Int→((List Int)→Oo)→Oo
def yq95 (N:Yq95):Fn1
 | none,[.s (.int .i64 a0)],K=>N a0 (fun r0=>K ([.own (.ints .u8 r0)],none))
 | _,_,_=>none
abbrev Yq96:=BY→Int→(Bool→Oo)→Oo
def yq96 (N:Yq96):Fn1
 | none,[.s (.str a0),.s (.int .i64 a1)],K=>N a0 a1 (fun r0=>K ([.s (.bool r0)],none))
 | _,_,_=>none
abbrev Lq96 (A R:Yq96):Prop:=∀ a0 a1 K r,A a0 a1 K=some r→R a0 a1 K=some r
theorem xq96 {A:Yq96} (hA:Lq96 A fun a0 a1 K=>runK prog (lookG l) nn Lv cut0 big f none [.s (.str a0),.s (.int .i64 a1)] (zq5 K)):FnP G ng g (yq96 A):=spec_run cut0_eq S hl hf hn fun rc cs K r=>by unfold yq96;split;exact fun h=>⟨_,hA _ _ _ _ h,fun p=>by unfold zq5;split;exact id;nofun⟩;nofun
abbrev Yq97:=BY→Int→Int→Int→(BY→Oo)→Oo
def yq97 (N:Yq97):Fn1
 | none,[.s (.str a0),.s (.int .i64 a1),.s (.int .i64 a2),.s (.int .i64 a3)],K=>N a0 a1 a2 a3 (fun r0=>K ([.s (.str r0)],none))
 | _,_,_=>none
end
abbrev TyO197:=(List Int)→Int→Int→((List Int)→Option Out)→Option Out
def adO197 (N:TyO197):Fn1
  | none,[.own (.ints .u8 a0),.s (.int .i64 a1),.s (.int .i64 a2)],K=>N a0 a1 a2 (fun r0=>K ([.own (.ints .u8 r0)],none))
  | _,_,_=>none
abbrev TyO243:=(List Int)→Int→((List Int)→Option Out)→Option Out
def adO243 (N:TyO243):Fn1
  | none,[.own (.ints .u8 a0),.s (.int .u64 a1)],K=>N a0 a1 (fun y=>K ([],some (.ints .u8 y)))
  | _,_,_=>none
abbrev TyO245:=(List Int)→Int→Int→((List Int)→Option Out)→Option Out
abbrev TkO245:=(List Int)→Option Out
def tokO245 (Kt:TkO245):Out→Option Out
  | ([.own (.ints .u8 r0)],none)=>Kt r0
  | _=>none
def adO245 (N:TyO245):Fn1
  | none,[.own (.ints .u8 a0),.s (.int .u64 a1),.s (.int .i64 a2)],K=>N a0 a1 a2 (fun r0=>K ([.own (.ints .u8 r0)],none))
  | _,_,_=>none
abbrev Ty9:=Yq71
abbrev Tk9:=Zq5
abbrev adp9 (N:Yq71):Fn1:=yq71 N
abbrev Ty10:=Yq78
abbrev Tk10:=Zq5
abbrev adp10 (N:Yq78):Fn1:=yq78 N
abbrev Ty11:=Yq91
abbrev Tk11:=Zq5
abbrev adp11 (N:Yq91):Fn1:=yq91 N
abbrev Ty12:=Yq75
abbrev Tk12:=Zq5
abbrev adp12 (N:Yq75):Fn1:=yq75 N
abbrev Ty13:=Yq77
abbrev Tk13:=Zq5
abbrev adp13 (N:Yq77):Fn1:=yq77 N
abbrev Ty16:=Yq27
abbrev Tk16:=Zq14
abbrev adp16 (N:Yq27):Fn1:=yq27 N
abbrev Ty17:=Yq27
abbrev Tk17:=Zq14
abbrev adp17 (N:Yq27):Fn1:=yq27 N
abbrev Ty19:=Yq62
abbrev Tk19:=Zq7
abbrev adp19 (N:Yq62):Fn1:=yq62 N
abbrev Ty20:=Yq10
abbrev Tk20:=Zq1
abbrev adp20 (N:Yq10):Fn1:=yq10 N
abbrev Ty22:=Yq60
abbrev Tk22:=Zq5
abbrev adp22 (N:Yq60):Fn1:=yq60 N
abbrev Ty24:=Yq58
abbrev Tk24:=Zq1
abbrev adp24 (N:Yq58):Fn1:=yq58 N
abbrev Ty25:=Yq67
abbrev Tk25:=Zq13
abbrev adp25 (N:Yq67):Fn1:=yq67 N
abbrev Ty26:=Yq67
abbrev Tk26:=Zq13
abbrev adp26 (N:Yq67):Fn1:=yq67 N
abbrev Ty27:=Yq25
abbrev Tk27:=Zq5
abbrev adp27 (N:Yq25):Fn1:=yq25 N
abbrev Ty28:=Yq25
abbrev Tk28:=Zq5
abbrev adp28 (N:Yq25):Fn1:=yq25 N
abbrev Ty29:=Yq60
abbrev Tk29:=Zq5
abbrev adp29 (N:Yq60):Fn1:=yq60 N
abbrev Ty30:=Yq66
abbrev Tk30:=Zq1
abbrev adp30 (N:Yq66):Fn1:=yq66 N
abbrev Ty31:=Yq58
abbrev Tk31:=Zq1
abbrev adp31 (N:Yq58):Fn1:=yq58 N
abbrev Ty32:=Yq76
abbrev Tk32:=Zq27
abbrev adp32 (N:Yq76):Fn1:=yq76 N
abbrev Ty33:=Yq76
abbrev Tk33:=Zq27
abbrev adp33 (N:Yq76):Fn1:=yq76 N
abbrev Ty34:=Yq74
abbrev Tk34:=Zq5
abbrev adp34 (N:Yq74):Fn1:=yq74 N
abbrev Ty35:=Yq25
abbrev Tk35:=Zq5
abbrev adp35 (N:Yq25):Fn1:=yq25 N
abbrev Ty36:=Yq88
abbrev Tk36:=Zq31
abbrev adp36 (N:Yq88):Fn1:=yq88 N
abbrev Ty37:=Yq89
abbrev Tk37:=Zq32
abbrev adp37 (N:Yq89):Fn1:=yq89 N
abbrev Ty38:=Yq90
abbrev Tk38:=Zq9
abbrev adp38 (N:Yq90):Fn1:=yq90 N
abbrev Ty39:=Yq25
abbrev Tk39:=Zq5
abbrev adp39 (N:Yq25):Fn1:=yq25 N
abbrev Ty40:=Yq24
abbrev Tk40:=Zq12
abbrev adp40 (N:Yq24):Fn1:=yq24 N
abbrev Ty41:=Yq26
abbrev Tk41:=Zq13
abbrev adp41 (N:Yq26):Fn1:=yq26 N
abbrev Ty42:=Yq25
abbrev Tk42:=Zq5
abbrev adp42 (N:Yq25):Fn1:=yq25 N
abbrev Ty43:=Yq14
abbrev Tk43:=Zq1
abbrev adp43 (N:Yq14):Fn1:=yq14 N
abbrev Ty44:=Yq25
abbrev Tk44:=Zq5
abbrev adp44 (N:Yq25):Fn1:=yq25 N
abbrev Ty45:=Yq51
abbrev Tk45:=Zq9
abbrev adp45 (N:Yq51):Fn1:=yq51 N
abbrev Ty46:=Yq51
abbrev Tk46:=Zq9
abbrev adp46 (N:Yq51):Fn1:=yq51 N
abbrev Ty47:=Yq79
abbrev Tk47:=Zq28
abbrev adp47 (N:Yq79):Fn1:=yq79 N
abbrev Ty48:=Yq14
abbrev Tk48:=Zq1
abbrev adp48 (N:Yq14):Fn1:=yq14 N
abbrev Ty49:=Yq14
abbrev Tk49:=Zq1
abbrev adp49 (N:Yq14):Fn1:=yq14 N
abbrev Ty50:=Yq80
abbrev Tk50:=Zq1
abbrev adp50 (N:Yq80):Fn1:=yq80 N
abbrev Ty51:=Yq87
abbrev Tk51:=Zq10
abbrev adp51 (N:Yq87):Fn1:=yq87 N
abbrev Ty52:=Yq92
abbrev Tk52:=Zq7
abbrev adp52 (N:Yq92):Fn1:=yq92 N
abbrev Ty53:=Yq93
abbrev adp53 (N:Yq93):Fn1:=yq93 N
abbrev Ty54:=Yq10
abbrev adp54 (N:Yq10):Fn1:=yq10 N
abbrev Ty55:=Yq94
abbrev adp55 (N:Yq94):Fn1:=yq94 N
abbrev Ty56:=Yq95
abbrev adp56 (N:Yq95):Fn1:=yq95 N
abbrev Ty57:=Yq96
abbrev Tk57:=Zq5
abbrev adp57 (N:Yq96):Fn1:=yq96 N
abbrev Ty58:=Yq97
abbrev adp58 (N:Yq97):Fn1:=yq97 N
abbrev Ty59:=Yq20
abbrev Tk59:=Zq5
abbrev adp59 (N:Yq20):Fn1:=yq20 N
abbrev Ty60:=Yq85
abbrev adp60 (N:Yq85):Fn1:=yq85 N
abbrev Ty61:=Yq20
abbrev Tk61:=Zq5
abbrev adp61 (N:Yq20):Fn1:=yq20 N
abbrev Ty62:=Yq15
abbrev Tk62:=Zq9
abbrev adp62 (N:Yq15):Fn1:=yq15 N
abbrev Ty63:=Yq28
abbrev Tk63:=Zq15
abbrev adp63 (N:Yq28):Fn1:=yq28 N
abbrev Ty64:=Yq15
abbrev Tk64:=Zq9
abbrev adp64 (N:Yq15):Fn1:=yq15 N
abbrev Ty65:=Yq28
abbrev Tk65:=Zq15
abbrev adp65 (N:Yq28):Fn1:=yq28 N
abbrev Ty66:=Yq29
abbrev Tk66:=Zq1
abbrev adp66 (N:Yq29):Fn1:=yq29 N
abbrev Ty67:=Yq15
abbrev Tk67:=Zq9
abbrev adp67 (N:Yq15):Fn1:=yq15 N
abbrev Ty68:=Yq14
abbrev adp68 (N:Yq14):Fn1:=yq14 N
abbrev Ty69:=Yq24
abbrev Tk69:=Zq12
abbrev adp69 (N:Yq24):Fn1:=yq24 N
abbrev Ty70:=Yq52
abbrev Tk70:=Zq1
abbrev adp70 (N:Yq52):Fn1:=yq52 N
abbrev Ty71:=Yq15
abbrev Tk71:=Zq9
abbrev adp71 (N:Yq15):Fn1:=yq15 N
abbrev Ty72:=Yq53
abbrev Tk72:=Zq23
abbrev adp72 (N:Yq53):Fn1:=yq53 N
abbrev Ty73:=Yq28
abbrev Tk73:=Zq15
abbrev adp73 (N:Yq28):Fn1:=yq28 N
abbrev Ty74:=Yq29
abbrev Tk74:=Zq1
abbrev adp74 (N:Yq29):Fn1:=yq29 N
abbrev Ty75:=Yq54
abbrev Tk75:=Zq24
abbrev adp75 (N:Yq54):Fn1:=yq54 N
abbrev Ty76:=Yq15
abbrev Tk76:=Zq9
abbrev adp76 (N:Yq15):Fn1:=yq15 N
abbrev Ty77:=Yq15
abbrev Tk77:=Zq9
abbrev adp77 (N:Yq15):Fn1:=yq15 N
abbrev Ty78:=Yq72
abbrev Tk78:=Zq9
abbrev adp78 (N:Yq72):Fn1:=yq72 N
abbrev Ty79:=Yq72
abbrev Tk79:=Zq9
abbrev adp79 (N:Yq72):Fn1:=yq72 N
abbrev Ty80:=Yq15
abbrev Tk80:=Zq9
abbrev adp80 (N:Yq15):Fn1:=yq15 N
abbrev Ty81:=Yq14
abbrev adp81 (N:Yq14):Fn1:=yq14 N
abbrev Ty82:=Yq14
abbrev Tk82:=Zq1
abbrev adp82 (N:Yq14):Fn1:=yq14 N
abbrev Ty83:=Yq80
abbrev Tk83:=Zq1
abbrev adp83 (N:Yq80):Fn1:=yq80 N
abbrev Ty84:=Yq85
abbrev Tk84:=Zq7
abbrev adp84 (N:Yq85):Fn1:=yq85 N
abbrev Ty85:=Yq12
abbrev adp85 (N:Yq12):Fn1:=yq12 N
abbrev Ty86:=Yq25
abbrev adp86 (N:Yq25):Fn1:=yq25 N
abbrev Ty87:=Yq37
abbrev Tk87:=Zq5
abbrev adp87 (N:Yq37):Fn1:=yq37 N
abbrev Ty90:=Yq35
abbrev Tk90:=Zq7
abbrev adp90 (N:Yq35):Fn1:=yq35 N
abbrev Ty91:=Yq20
abbrev Tk91:=Zq5
abbrev adp91 (N:Yq20):Fn1:=yq20 N
abbrev Ty92:=Yq20
abbrev Tk92:=Zq5
abbrev adp92 (N:Yq20):Fn1:=yq20 N
abbrev Ty93:=Yq30
abbrev Tk93:=Zq16
abbrev adp93 (N:Yq30):Fn1:=yq30 N
abbrev Ty94:=Yq31
abbrev adp94 (N:Yq31):Fn1:=yq31 N
abbrev Ty95:=Yq11
abbrev Tk95:=Zq1
abbrev adp95 (N:Yq11):Fn1:=yq11 N
abbrev Ty96:=Yq32
abbrev Tk96:=Zq1
abbrev adp96 (N:Yq32):Fn1:=yq32 N
abbrev Ty97:=Yq33
abbrev Tk97:=Zq15
abbrev adp97 (N:Yq33):Fn1:=yq33 N
abbrev Ty98:=Yq30
abbrev Tk98:=Zq16
abbrev adp98 (N:Yq30):Fn1:=yq30 N
abbrev Ty99:=Yq34
abbrev Tk99:=Zq15
abbrev adp99 (N:Yq34):Fn1:=yq34 N
abbrev Ty100:=Yq45
abbrev Tk100:=Zq7
abbrev adp100 (N:Yq45):Fn1:=yq45 N
abbrev Ty101:=Yq38
abbrev Tk101:=Zq17
abbrev adp101 (N:Yq38):Fn1:=yq38 N
abbrev Ty102:=Yq46
abbrev adp102 (N:Yq46):Fn1:=yq46 N
abbrev Ty103:=Yq47
abbrev adp103 (N:Yq47):Fn1:=yq47 N
abbrev Ty104:=Yq36
abbrev Tk104:=Zq1
abbrev adp104 (N:Yq36):Fn1:=yq36 N
abbrev Ty105:=Yq45
abbrev Tk105:=Zq7
abbrev adp105 (N:Yq45):Fn1:=yq45 N
abbrev Ty106:=Yq49
abbrev Tk106:=Zq22
abbrev adp106 (N:Yq49):Fn1:=yq49 N
abbrev Ty107:=Yq14
abbrev Tk107:=Zq1
abbrev adp107 (N:Yq14):Fn1:=yq14 N
abbrev Ty108:=Yq14
abbrev Tk108:=Zq1
abbrev adp108 (N:Yq14):Fn1:=yq14 N
abbrev Ty109:=Yq43
abbrev Tk109:=Zq5
abbrev adp109 (N:Yq43):Fn1:=yq43 N
abbrev Ty110:=Yq7
abbrev Tk110:=Zq6
abbrev adp110 (N:Yq7):Fn1:=yq7 N
abbrev Ty111:=Yq9
abbrev Tk111:=Zq8
abbrev adp111 (N:Yq9):Fn1:=yq9 N
abbrev Ty112:=Yq12
abbrev Tk112:=Zq1
abbrev adp112 (N:Yq12):Fn1:=yq12 N
abbrev Ty113:=Yq11
abbrev Tk113:=Zq1
abbrev adp113 (N:Yq11):Fn1:=yq11 N
abbrev Ty114:=Yq15
abbrev Tk114:=Zq9
abbrev adp114 (N:Yq15):Fn1:=yq15 N
abbrev Ty115:=Yq32
abbrev Tk115:=Zq1
abbrev adp115 (N:Yq32):Fn1:=yq32 N
abbrev Ty116:=Yq55
abbrev Tk116:=Zq9
abbrev adp116 (N:Yq55):Fn1:=yq55 N
abbrev Ty117:=Yq15
abbrev Tk117:=Zq9
abbrev adp117 (N:Yq15):Fn1:=yq15 N
abbrev Ty118:=Yq56
abbrev Tk118:=Zq15
abbrev adp118 (N:Yq56):Fn1:=yq56 N
abbrev Ty119:=Yq57
abbrev Tk119:=Zq9
abbrev adp119 (N:Yq57):Fn1:=yq57 N
abbrev Ty120:=Yq34
abbrev Tk120:=Zq15
abbrev adp120 (N:Yq34):Fn1:=yq34 N
abbrev Ty121:=Yq43
abbrev Tk121:=Zq5
abbrev adp121 (N:Yq43):Fn1:=yq43 N
abbrev Ty122:=Yq13
abbrev Tk122:=Zq7
abbrev adp122 (N:Yq13):Fn1:=yq13 N
abbrev Ty123:=Yq16
abbrev Tk123:=Zq10
abbrev adp123 (N:Yq16):Fn1:=yq16 N
abbrev Ty124:=Yq17
abbrev Tk124:=Zq10
abbrev adp124 (N:Yq17):Fn1:=yq17 N
abbrev Ty125:=Yq8
abbrev Tk125:=Zq7
abbrev adp125 (N:Yq8):Fn1:=yq8 N
abbrev Ty126:=Yq18
abbrev Tk126:=Zq7
abbrev adp126 (N:Yq18):Fn1:=yq18 N
abbrev Ty127:=Yq19
abbrev Tk127:=Zq9
abbrev adp127 (N:Yq19):Fn1:=yq19 N
abbrev Ty128:=Yq59
abbrev Tk128:=Zq25
abbrev adp128 (N:Yq59):Fn1:=yq59 N
abbrev Ty129:=Yq14
abbrev Tk129:=Zq1
abbrev adp129 (N:Yq14):Fn1:=yq14 N
abbrev Ty130:=Yq52
abbrev Tk130:=Zq1
abbrev adp130 (N:Yq52):Fn1:=yq52 N
abbrev Ty131:=Yq59
abbrev Tk131:=Zq25
abbrev adp131 (N:Yq59):Fn1:=yq59 N
abbrev Ty132:=Yq58
abbrev Tk132:=Zq1
abbrev adp132 (N:Yq58):Fn1:=yq58 N
abbrev Ty133:=Yq25
abbrev Tk133:=Zq5
abbrev adp133 (N:Yq25):Fn1:=yq25 N
abbrev Ty135:=Yq82
abbrev Tk135:=Zq29
abbrev adp135 (N:Yq82):Fn1:=yq82 N
abbrev Ty136:=Yq85
abbrev Tk136:=Zq7
abbrev adp136 (N:Yq85):Fn1:=yq85 N
abbrev Ty141:=Yq25
abbrev adp141 (N:Yq25):Fn1:=yq25 N
abbrev Ty142:=Yq25
abbrev adp142 (N:Yq25):Fn1:=yq25 N
abbrev Ty145:=Yq35
abbrev Tk145:=Zq7
abbrev adp145 (N:Yq35):Fn1:=yq35 N
abbrev Ty146:=Yq36
abbrev Tk146:=Zq1
abbrev adp146 (N:Yq36):Fn1:=yq36 N
abbrev Ty147:=Yq25
abbrev Tk147:=Zq5
abbrev adp147 (N:Yq25):Fn1:=yq25 N
abbrev Ty148:=Yq1
abbrev Tk148:=Zq1
abbrev adp148 (N:Yq1):Fn1:=yq1 N
abbrev Ty149:=Yq25
abbrev Tk149:=Zq5
abbrev adp149 (N:Yq25):Fn1:=yq25 N
abbrev Ty150:=Yq25
abbrev Tk150:=Zq5
abbrev adp150 (N:Yq25):Fn1:=yq25 N
abbrev Ty151:=Yq1
abbrev Tk151:=Zq1
abbrev adp151 (N:Yq1):Fn1:=yq1 N
abbrev Ty152:=Yq11
abbrev Tk152:=Zq1
abbrev adp152 (N:Yq11):Fn1:=yq11 N
abbrev Ty153:=Yq44
abbrev adp153 (N:Yq44):Fn1:=yq44 N
abbrev Ty154:=Yq48
abbrev Tk154:=Zq21
abbrev adp154 (N:Yq48):Fn1:=yq48 N
abbrev Ty155:=Yq13
abbrev adp155 (N:Yq13):Fn1:=yq13 N
abbrev Ty158:=Yq37
abbrev Tk158:=Zq5
abbrev adp158 (N:Yq37):Fn1:=yq37 N
abbrev Ty159:=Yq50
abbrev Tk159:=Zq7
abbrev adp159 (N:Yq50):Fn1:=yq50 N
abbrev Ty160:=Yq20
abbrev Tk160:=Zq5
abbrev adp160 (N:Yq20):Fn1:=yq20 N
abbrev Ty161:=Yq45
abbrev Tk161:=Zq7
abbrev adp161 (N:Yq45):Fn1:=yq45 N
abbrev Ty162:=Yq45
abbrev Tk162:=Zq7
abbrev adp162 (N:Yq45):Fn1:=yq45 N
abbrev Ty163:=Yq1
abbrev Tk163:=Zq1
abbrev adp163 (N:Yq1):Fn1:=yq1 N
abbrev Ty164:=Yq2
abbrev Tk164:=Zq2
abbrev adp164 (N:Yq2):Fn1:=yq2 N
abbrev Ty165:=Yq3
abbrev Tk165:=Zq3
abbrev adp165 (N:Yq3):Fn1:=yq3 N
abbrev Ty166:=Yq3
abbrev Tk166:=Zq3
abbrev adp166 (N:Yq3):Fn1:=yq3 N
abbrev Ty167:=Yq4
abbrev Tk167:=Zq4
abbrev adp167 (N:Yq4):Fn1:=yq4 N
abbrev Ty168:=Yq5
abbrev Tk168:=Zq2
abbrev adp168 (N:Yq5):Fn1:=yq5 N
abbrev Ty169:=Yq6
abbrev Tk169:=Zq5
abbrev adp169 (N:Yq6):Fn1:=yq6 N
abbrev Ty170:=Yq8
abbrev Tk170:=Zq7
abbrev adp170 (N:Yq8):Fn1:=yq8 N
abbrev Ty171:=Yq10
abbrev adp171 (N:Yq10):Fn1:=yq10 N
abbrev Ty172:=Yq11
abbrev adp172 (N:Yq11):Fn1:=yq11 N
abbrev Ty173:=Yq36
abbrev Tk173:=Zq1
abbrev adp173 (N:Yq36):Fn1:=yq36 N
abbrev Ty174:=Yq25
abbrev Tk174:=Zq5
abbrev adp174 (N:Yq25):Fn1:=yq25 N
abbrev Ty175:=Yq36
abbrev Tk175:=Zq1
abbrev adp175 (N:Yq36):Fn1:=yq36 N
abbrev Ty176:=Yq25
abbrev Tk176:=Zq5
abbrev adp176 (N:Yq25):Fn1:=yq25 N
abbrev Ty177:=Yq11
abbrev Tk177:=Zq1
abbrev adp177 (N:Yq11):Fn1:=yq11 N
abbrev Ty178:=Yq21
abbrev Tk178:=Zq11
abbrev adp178 (N:Yq21):Fn1:=yq21 N
abbrev Ty179:=Yq22
abbrev Tk179:=Zq9
abbrev adp179 (N:Yq22):Fn1:=yq22 N
abbrev Ty180:=Yq10
abbrev Tk180:=Zq1
abbrev adp180 (N:Yq10):Fn1:=yq10 N
abbrev Ty181:=Yq35
abbrev Tk181:=Zq7
abbrev adp181 (N:Yq35):Fn1:=yq35 N
abbrev Ty182:=Yq58
abbrev Tk182:=Zq1
abbrev adp182 (N:Yq58):Fn1:=yq58 N
abbrev Ty183:=Yq52
abbrev Tk183:=Zq1
abbrev adp183 (N:Yq52):Fn1:=yq52 N
abbrev Ty184:=Yq14
abbrev adp184 (N:Yq14):Fn1:=yq14 N
abbrev Ty185:=Yq73
abbrev Tk185:=Zq26
abbrev adp185 (N:Yq73):Fn1:=yq73 N
abbrev Ty186:=Yq73
abbrev Tk186:=Zq26
abbrev adp186 (N:Yq73):Fn1:=yq73 N
abbrev Ty187:=Yq81
abbrev Tk187:=Zq7
abbrev adp187 (N:Yq81):Fn1:=yq81 N
abbrev Ty189:=Yq83
abbrev Tk189:=Zq30
abbrev adp189 (N:Yq83):Fn1:=yq83 N
abbrev Ty190:=Yq84
abbrev Tk190:=Zq5
abbrev adp190 (N:Yq84):Fn1:=yq84 N
abbrev Ty194:=Yq20
abbrev Tk194:=Zq5
abbrev adp194 (N:Yq20):Fn1:=yq20 N
abbrev Ty202:=Yq38
abbrev Tk202:=Zq17
abbrev adp202 (N:Yq38):Fn1:=yq38 N
abbrev Ty206:=Yq39
abbrev Tk206:=Zq7
abbrev adp206 (N:Yq39):Fn1:=yq39 N
abbrev Ty207:=Yq1
abbrev Tk207:=Zq1
abbrev adp207 (N:Yq1):Fn1:=yq1 N
abbrev Ty213:=Yq1
abbrev Tk213:=Zq1
abbrev adp213 (N:Yq1):Fn1:=yq1 N
abbrev Ty217:=Yq39
abbrev Tk217:=Zq7
abbrev adp217 (N:Yq39):Fn1:=yq39 N
abbrev Ty218:=Yq1
abbrev Tk218:=Zq1
abbrev adp218 (N:Yq1):Fn1:=yq1 N
abbrev Ty219:=Yq23
abbrev Tk219:=Zq1
abbrev adp219 (N:Yq23):Fn1:=yq23 N
abbrev Ty220:=Yq86
abbrev Tk220:=Zq7
abbrev adp220 (N:Yq86):Fn1:=yq86 N
abbrev Ty221:=Yq25
abbrev adp221 (N:Yq25):Fn1:=yq25 N
abbrev Ty223:=Yq83
abbrev adp223 (N:Yq83):Fn1:=yq83 N
abbrev Ty226:=Yq20
abbrev Tk226:=Zq5
abbrev adp226 (N:Yq20):Fn1:=yq20 N
abbrev Ty230:=Yq40
abbrev adp230 (N:Yq40):Fn1:=yq40 N
abbrev Ty232:=Yq39
abbrev adp232 (N:Yq39):Fn1:=yq39 N
abbrev Ty241:=Yq10
abbrev adp241 (N:Yq10):Fn1:=yq10 N
abbrev Ty242:=Yq41
abbrev adp242 (N:Yq41):Fn1:=yq41 N
abbrev Ty244:=Yq42
abbrev adp244 (N:Yq42):Fn1:=yq42 N
end
end Go.Proofs.YtffmgholjdfcnaaGreatDoor
namespace Go.Proofs.YtffmgholjdfcnaaGreatDoor
open Go AM
def whole (b:Bool) (x:Option Out):Option Out:=match (some true:Option Bool),b with | some true,true=>x | _,_=>none
theorem whole_true (x:Option Out):whole true x=x:=rfl
end Go.Proofs.YtffmgholjdfcnaaGreatDoor
