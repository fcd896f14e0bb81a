import Derived.Test.YtffmgholjdfcnaaGreatDoorYSNwB
import Derived.Test.YtffmgholjdfcnaaGreatDoorKSC
import Derived.Test.YtffmgholjdfcnaaGreatDoorYSNuU
import Derived.Test.YtffmgholjdfcnaaGreatDoorKSS
import Derived.Lib.ValidLaws
set_option linter.unusedSimpArgs false
set_option linter.unusedVariables false
namespace Go.Proofs.YtffmgholjdfcnaaGreatDoor
open Go AM St Nu
open Go.IntKind (i64 u8)
variable {C:Nat→Env→(Env→Option Out)→Option Out}
theorem easyC_bd {c:UInt8} (h:easyC c=true):32≤c.toNat∧c.toNat≤126∧(nI c==34)=false∧(nI c==92)=false:=by
 unfold easyC at h
 simp only [Bool.and_eq_true,decide_eq_true_eq,Bool.not_eq_true'] at h
 obtain ⟨⟨⟨h1,h2⟩,h3⟩,h4⟩:=h
 have e34:(nI c==34)=(c==34):=eqB 34 (n:=34) rfl c
 have e92:(nI c==92)=(c==92):=eqB 92 (n:=92) rfl c
 exact ⟨by omega,h2,by rw [e34,h3],by rw [e92,h4]⟩
theorem beq_no {a b:Int} (h:a ≠ b):(a==b)=false:=by simpa using h
def A135:Ty135:=fun r K=>if 32≤r∧r≤126∧(r==34)=false∧(r==92)=false then K 0 else none
theorem eq135 (hC:∀ key e t,C key e t=t e) (r':Int) (K:Tk135) (r:Out) (h:A135 r' K=some r):run135 C big r' K=some r:=by
 unfold A135 at h
 split at h
 ·rename_i hc
  obtain ⟨h1,h2,h3,h4⟩:=hc
  rw [run135_eq,← h,h3,cond_false,p1_135_eq _ hC,h4,cond_false,beq_no (show r' ≠ 10 by omega),cond_false,beq_no (show r' ≠ 9 by omega),cond_false,beq_no (show r' ≠ 13 by omega),cond_false,beq_no (show r' ≠ 133 by omega),cond_false,beq_no (show r' ≠ 8232 by omega),cond_false,beq_no (show r' ≠ 8233 by omega),cond_false]
 ·cases h
def A190:Ty190:=fun r K=>if 32≤r∧r≤126 then K true else none
theorem eq190 (hC:∀ key e t,C key e t=t e) (r':Int) (K:Tk190) (r:Out) (h:A190 r' K=some r):run190 C big r' K=some r:=by
 unfold A190 at h
 split at h
 ·rename_i hc
  obtain ⟨h1,h2⟩:=hc
  rw [run190_eq,← h,beq_no (show r' ≠ 9 by omega),cond_false,beq_no (show r' ≠ 10 by omega),cond_false,beq_no (show r' ≠ 13 by omega),cond_false,beq_no (show r' ≠ 133 by omega),p1_190_eq _ hC,cond_false,dF (show ¬ r'<32 by omega),cond_false,dF (show ¬ r' > 126 by omega),cond_false,
   p3_190_eq _ hC,cond_false,beq_no (show r' ≠ 65279 by omega),cond_false,dF (show ¬ r' > 65533 by omega),cond_false,p2_190_eq _ hC,cond_false]
 ·cases h
def A189:Ty189:=fun s K=>match s with
 | c :: _=>if c.toNat<128 then K (c.toNat:Int) 1 else none
 | []=>none
theorem eq189 {N223:Ty223} (hC:∀ key e t,C key e t=t e) (s:B) (K:Tk189) (r:Out) (h:A189 s K=some r):run189 C N223 big s K=some r:=by
 unfold A189 at h
 split at h
 ·rename_i c l
  split at h
  ·rename_i hc
   have hat:at? (c :: l) 0=some c:=rfl
   have hw:IntKind.i32.wrap (c.toNat:Int)=(c.toNat:Int):=by rw [IntKind.wrap_i32];omega
   rw [run189_eq,← h]
   show ((at? (c :: l) 0).bind fun b1=>p1_189 C N223 big (c :: l) (decide ((b1.toNat:Int)<128)) K)=_
   rw [hat,oB,dT (by omega),p1_189_eq _ _ hC,cond_true,hat,oB,hw]
  ·cases h
 ·cases h
def A136:Ty136:=fun s i K=>if 0≤i∧i<s.length∧easy s=true∧s.length≤10000 then K 1 else none
theorem eq136 (hC:∀ key e t,C key e t=t e) (s:B) (i:Int) (K:Tk136) (r:Out) (h:A136 s i K=some r):run136 C A189 A190 big s i K=some r:=by
 unfold A136 at h
 split at h
 ·rename_i hc
  obtain ⟨h0,h1,he,hs⟩:=hc
  obtain ⟨n,rfl⟩:∃ n:Nat,i=(n:Int):=⟨i.toNat,by omega⟩
  have hn:n<s.length:=by omega
  have hd:s.drop n=s[n] :: s.drop (n+1):=List.drop_eq_getElem_cons hn
  have hcut:cut s (some (n:Int)) none=some (s[n] :: s.drop (n+1)):=by
   unfold cut
   rw [if_pos (by simp;omega)]
   simp only [Option.getD_none,Option.getD_some,Int.toNat_natCast]
   rw [List.take_of_length_le (Nat.le_refl _),hd]
  have hec:easyC s[n]=true:=List.all_eq_true.1 he _ (List.getElem_mem hn)
  obtain ⟨b1,b2,-,-⟩:=easyC_bd hec
  have e189:∀ k,A189 (s[n] :: s.drop (n+1)) k=k (s[n].toNat:Int) 1:=fun k=>if_pos (by omega)
  have e190:∀ k,A190 (s[n].toNat:Int) k=k true:=fun k=>if_pos (by omega)
  rw [run136_eq,← h,dF (show ¬ (n:Int)<0 by omega),cond_false,dF (show ¬ (n:Int) ≥ (s.length:Int) by omega),p1_136_eq _ _ _ hC,cond_false,hcut,oB,e189,beq_no (show (s[n].toNat:Int) ≠ 65533 by omega),cond_false,e190,p2_136_eq _ _ _ hC]
  rfl
 ·cases h
def A220:Ty220:=fun e K=>if e=1 then K 1 else none
theorem eq220 (hC:∀ key e t,C key e t=t e) (e:Int) (K:Tk220) (r:Out) (h:A220 e K=some r):run220 C big e K=some r:=by
 unfold A220 at h
 split at h
 ·rename_i he
  subst he
  have e1:((1:Int)==4)=false:=rfl
  have e2:((1:Int)==5)=false:=rfl
  have e3:((1:Int)==2)=false:=rfl
  have e4:((1:Int)==3)=false:=rfl
  have e5:((1:Int)==1)=true:=rfl
  have e6:i64.wrap (0+1)=1:=by decide
  rw [run220_eq,← h,e1,cond_false,e2,p1_220_eq _ hC,cond_false,e3,cond_false,e4,p3_220_eq _ hC,cond_false,e5,cond_true,p4_220_eq _ hC,p5_220_eq _ hC,e6]
 ·cases h
def A221:Ty221:=fun s K=>if easy s=true∧s.length≤10000 then K true else none
theorem easy_valid:∀ {l:B},easy l=true→Go.Lib.validD l=true
 | [],_=>rfl
 | c :: l,h=>by
  unfold easy at h
  rw [List.all_cons,Bool.and_eq_true] at h
  have:=(easyC_bd h.1).2.1
  rw [Go.Lib.validD_cons c l (by omega)]
  exact easy_valid h.2
theorem is221':FnP G ng 221 (adp221 A221):=fnIs_lib (c:=Tryz.f221.body.getD .skip) Tryz.func221 (by kernel_rfl) (by kernel_rfl) fun rc cs K r h=>by
 unfold adp221 yq25 A221 at h
 split at h
 ·split at h
  ·rename_i s hc
   refine ⟨rfl,[.str s],rfl,.bool true,h,fun w hG=>(Tryz.utf8_ValidString ⟨⟨s⟩⟩ w (by rw [AM.size_mk];omega) hG.2.2).mono fun e w' ⟨h1,h2⟩=>⟨?_,ext_below h2⟩⟩
   rw [h1]
   have:Go.Lib.validD s=true:=easy_valid hc.1
   exact congrArg (fun b=>Ending.returned (Value.bool b)) this
  ·cases h
 ·cases h
def A187:Ty187:=fun e s K=>if e=1∧easy s=true∧s.length≤10000 then K (s.length:Int) else none
theorem eq187 (e:Int) (s:B) (K:Tk187) (r:Out) (h:A187 e s K=some r):run187 C A220 A221 big e s K=some r:=by
 unfold A187 at h
 split at h
 ·rename_i hc
  obtain ⟨h1,h2,h3⟩:=hc
  have e220:∀ k,A220 e k=k 1:=fun k=>if_pos h1
  have e221:∀ k,A221 s k=k true:=fun k=>if_pos ⟨h2,h3⟩
  rw [run187_eq,← h,e220,e221]
  rfl
 ·cases h
def A133:Ty133:=fun s K=>if easy s=true∧s.length≤10000 then K true else none
theorem eq133 (s:B) (K:Tk133) (r:Out) (h:A133 s K=some r):run133 C A187 big s K=some r:=by
 unfold A133 at h
 split at h
 ·rename_i hc
  have e187:∀ k,A187 1 s k=k (s.length:Int):=fun k=>if_pos ⟨rfl,hc⟩
  rw [run133_eq,← h,e187]
  cases s with
  | nil=>rfl
  | cons c l =>
   have:((c :: l:B)==[])=false:=rfl
   rw [this,cond_false,dT (by simp)]
 ·cases h
end Go.Proofs.YtffmgholjdfcnaaGreatDoor
