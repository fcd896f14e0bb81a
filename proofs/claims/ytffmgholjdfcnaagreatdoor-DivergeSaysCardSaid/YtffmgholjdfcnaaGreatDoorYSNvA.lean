import Derived.Test.YtffmgholjdfcnaaGreatDoorYSX
set_option linter.unusedSimpArgs false
set_option linter.unusedVariables false
namespace Go.Proofs.YtffmgholjdfcnaaGreatDoor
open Go AM St Nu
open Go.IntKind (i64 u8)
variable {C:Nat→Env→(Env→Option Out)→Option Out}
def A186:Ty186:=fun K=>K (b64.map nI)
theorem eq186 (K:Tk186):run186 C big K=A186 K:=(run186_eq _ _ _).trans (by kernel_rfl)
def fill:Nat→List Int→Int→List Int
 | 0,v,_=>v
 | n+1,v,i=>fill n (v.set (0+i.toNat) 64) (i+1)
theorem fill_all:fill 256 (List.replicate 256 (0:Int)) 0=List.replicate 256 64:=by decide +kernel
theorem loopA185 (hC:∀ key e t,C key e t=t e) {v0:List Int} {K:Tk185} (kk:Nat):∀ (n:Nat) (v1:List Int) (i:Int) (j:Nat),0≤i→i+n=256→v1.length=256→n<j→l1_185 C A186 kk j v0 v1 i K=l2_185 C A186 kk kk v0 (fill n v1 i) (b64.map nI) 0 K
 | 0,v1,i,j,h0,hi,hv,hj=>by
  obtain ⟨j,rfl⟩:∃ i,j=i+1:=⟨j - 1,by omega⟩
  rw [l1_185_eq _ _ hC,dF (by omega),cond_false]
  rfl
 | n+1,v1,i,j,h0,hi,hv,hj=>by
  obtain ⟨j,rfl⟩:∃ i,j=i+1:=⟨j - 1,by omega⟩
  have ih:=loopA185 hC (v0:=v0) (K:=K) kk n (v1.set (0+i.toNat) 64) (i+1) j (by omega) (by omega) (by rw [List.length_set];exact hv) (by omega)
  rw [l1_185_eq _ _ hC,dT (show i<256 by omega),dT h0,cond_true,Bool.and_self,cond_true,dT (by omega),cond_true,i64_in (by omega) (by omega),ih,fill]
def put:B→List Int→Nat→List Int
 | [],v,_=>v
 | c :: l,v,i=>put l (v.set (0+(nI c).toNat) (i:Int)) (i+1)
def tbl:List Int:=put b64 (List.replicate 256 64) 0
theorem tbl_len:tbl.length=256:=by decide +kernel
theorem tbl_get (c:UInt8):tbl[c.toNat]?=some ((plc c:Nat):Int):=allU8 (P:=fun c=>tbl[c.toNat]?=some ((plc c:Nat):Int)) (by decide +kernel) c
theorem loopB185 (hC:∀ key e t,C key e t=t e) {v0:List Int} {K:Tk185} (kk:Nat):∀ (l:B) (v1:List Int) (j:Nat),l <:+ b64→v1.length=256→l.length<j→l2_185 C A186 kk j v0 v1 (b64.map nI) (Pt b64 l) K=(whole ((Xs.ints .u8 (put l v1 (64 - l.length))).toS.length==256) (K (put l v1 (64 - l.length))))
 | [],v1,j,h,hv,hj=>by
  obtain ⟨j,rfl⟩:∃ i,j=i+1:=⟨j - 1,by omega⟩
  rw [l2_185_eq _ _ hC,Pt_end,dF (by decide),cond_false]
  rfl
 | c :: l,v1,j,h,hv,hj=>by
  obtain ⟨j,rfl⟩:∃ i,j=i+1:=⟨j - 1,by omega⟩
  have hl:l <:+ b64:=(List.suffix_cons c l).trans h
  have hlen:=h.length_le
  have h64:b64.length=64:=rfl
  rw [h64] at hlen
  simp only [List.length_cons] at hj hlen
  have ih:=loopB185 hC (v0:=v0) (K:=K) kk l (v1.set (0+(nI c).toNat) ((64 - (l.length+1):Nat):Int)) j hl (by rw [List.length_set];exact hv) (by omega)
  have hp:=Pt_lt h
  have hat:at? (b64.map nI) (Pt b64 (c :: l))=some (nI c):=by
   unfold at?
   rw [if_pos (Pt_nn _ _),idx_Pt h]
  have hc:=byte_lt c
  have e0:nI c=(c.toNat:Int):=rfl
  have hpt:Pt b64 (c :: l)=((64 - (l.length+1):Nat):Int):=by unfold Pt;rw [h64,List.length_cons]
  have hu:u8.wrap (Pt b64 (c :: l))=((64 - (l.length+1):Nat):Int):=by rw [hpt,u8_in (by omega) (by omega)]
  have h63:Pt b64 (c :: l)<64:=by rw [hpt];omega
  rw [l2_185_eq _ _ hC,dT h63,cond_true,cond_true,hat,oB,dT (show 0≤nI c by omega),dT (show nI c<256 by omega),Bool.and_self,cond_true,dT (show 0+(nI c).toNat<v1.length by rw [hv];omega),cond_true,hu,Pt_succ h (by decide),ih,put]
  have e1:64 - (l.length+1)+1=64 - l.length:=by omega
  rw [List.length_cons,e1]
def A185:Ty185:=fun K=>K tbl
theorem eq185 (hC:∀ key e t,C key e t=t e) (K:Tk185):run185 C A186 big K=A185 K:=by
 have hb:=loopB185 hC (v0:=List.replicate 256 (0:Int)) (K:=K) big b64 (List.replicate 256 64) big (List.suffix_refl _) List.length_replicate (by decide)
 rw [Pt_zero] at hb
 rw [run185_eq,loopA185 hC big 256 _ 0 big (by omega) (by omega) List.length_replicate (by decide),fill_all,hb]
 have:put b64 (List.replicate 256 64) (64 - b64.length)=tbl:=rfl
 rw [this]
 have e:((Xs.ints .u8 tbl).toS.length==256)=true:=by
  have:(Xs.ints .u8 tbl).toS.length=256:=by simp only [Xs.toS,List.length_map];exact tbl_len
  rw [this];rfl
 rw [e];rfl
theorem ofI (n:Nat):BitVec.ofInt (IntKind.bits .i64) (n:Int)=BitVec.ofNat (IntKind.bits .i64) n:=BitVec.ofInt_natCast _ _
theorem or_add {a b i:Nat} (hb:b<2 ^ i) (ha:a * 2 ^ i+b<9223372036854775808):((BitVec.ofInt (IntKind.bits .i64) ((a * 2 ^ i:Nat):Int) ||| BitVec.ofInt (IntKind.bits .i64) (b:Int)).toNat)=a * 2 ^ i+b:=by
 rw [ofI,ofI,BitVec.toNat_or,BitVec.toNat_ofNat,BitVec.toNat_ofNat]
 have e:(2:Nat) ^ (IntKind.bits .i64)=18446744073709551616:=rfl
 rw [e,Nat.mod_eq_of_lt (by omega),Nat.mod_eq_of_lt (by omega),← Nat.shiftLeft_eq,← Nat.shiftLeft_add_eq_or_of_lt hb]
theorem and_mod {n i:Nat} (hn:n<9223372036854775808) (hi:i<63):((BitVec.ofInt (IntKind.bits .i64) (n:Int) &&& BitVec.ofInt (IntKind.bits .i64) ((2 ^ i - 1:Nat):Int)).toNat)=n % 2 ^ i:=by
 have e:(2:Nat) ^ (IntKind.bits .i64)=18446744073709551616:=rfl
 have hp:(2:Nat) ^ i≤2 ^ 63:=Nat.pow_le_pow_right (by decide) (by omega)
 rw [ofI,ofI,BitVec.toNat_and,BitVec.toNat_ofNat,BitVec.toNat_ofNat,e,Nat.mod_eq_of_lt (show n<18446744073709551616 by omega),Nat.mod_eq_of_lt (show 2 ^ i - 1<18446744073709551616 by omega),Nat.and_two_pow_sub_one_eq_mod]
def v24 (x3 x4 x5:Int):Int:=i64.wrap ((BitVec.ofInt (IntKind.bits .i64) (i64.wrap ((BitVec.ofInt (IntKind.bits .i64) (i64.wrap ((i64.wrap x3) * 2 ^ 16)) ||| BitVec.ofInt (IntKind.bits .i64) (i64.wrap ((i64.wrap x4) * 2 ^ 8))).toNat)) ||| BitVec.ofInt (IntKind.bits .i64) (i64.wrap x5)).toNat)
def a63 (x:Int):Int:=i64.wrap ((BitVec.ofInt (IntKind.bits .i64) x &&& BitVec.ofInt (IntKind.bits .i64) 63).toNat)
theorem v24_eq {a b c:Nat} (ha:a<256) (hb:b<256) (hc:c<256):v24 (a:Int) (b:Int) (c:Int)=((a * 65536+b * 256+c:Nat):Int):=by
 unfold v24
 have e1:i64.wrap (i64.wrap (a:Int) * 2 ^ 16)=((a * 2 ^ 16:Nat):Int):=by rw [i64_in (n:=(a:Int)) (by omega) (by omega),i64_in (by omega) (by omega)];omega
 have e2:i64.wrap (i64.wrap (b:Int) * 2 ^ 8)=((b * 256:Nat):Int):=by rw [i64_in (n:=(b:Int)) (by omega) (by omega),i64_in (by omega) (by omega)];omega
 have e3:i64.wrap (c:Int)=(c:Int):=i64_in (by omega) (by omega)
 rw [e1,e2,e3,or_add (a:=a) (b:=b * 256) (i:=16) (by omega) (by omega)]
 have e4:i64.wrap ((a * 2 ^ 16+b * 256:Nat):Int)=(((a * 256+b) * 2 ^ 8:Nat):Int):=by rw [i64_in (by omega) (by omega)];omega
 rw [e4,or_add (a:=a * 256+b) (b:=c) (i:=8) (by omega) (by omega),i64_in (by omega) (by omega)]
 omega
theorem a63_eq {n:Nat} (h:n<16777216):a63 (n:Int)=((n % 64:Nat):Int):=by
 unfold a63
 have:=and_mod (n:=n) (i:=6) (by omega) (by omega)
 have e:(63:Int)=((2 ^ 6 - 1:Nat):Int):=rfl
 rw [e,this,i64_in (by omega) (by omega)]
def thr (v0:List Int):List Int:=([0,0,0]:List Int).take 0++v0.take (min v0.length 3)++([0,0,0]:List Int).drop (0+(min v0.length 3))
def pick (v3:List Int) (i:Int) (f:Int→Option Out):Option Out:=bif (decide (0≤i)&&decide (i<64)) then (v3[(0+i.toNat)]?).bind f else none
theorem pick_eq {n:Nat} (h:n<64) (f:Int→Option Out):pick (b64.map nI) (n:Int) f=f (nI (sig6 n)):=by
 unfold pick
 rw [dT (show (0:Int)≤(n:Int) by omega),dT (show (n:Int)<64 by omega),Bool.and_self,cond_true,Int.toNat_natCast,Nat.zero_add,List.getElem?_map]
 have:=at64 h
 unfold at? at this
 rw [if_pos (by omega),Int.toNat_natCast] at this
 rw [this];rfl
theorem l1_132_eq' {N186:Ty186} (hC:∀ key e t,C key e t=t e) (k j0:Nat) (v0 v3 v4:List Int) (Kt:Tk132):l1_132 C N186 k (j0+1) v0 v3 v4 Kt =
 (bif (decide ((v0.length:Int) > 0)) then ((cutN v0.length (some (((min v0.length 3):Nat):Int)) none).bind fun p2=>(((thr v0)[0]?).bind fun x3=>(((thr v0)[1]?).bind fun x4=>(((thr v0)[2]?).bind fun x5 =>
  pick v3 ((v24 x3 x4 x5).fdiv (2 ^ 18)) fun x6=>pick v3 (a63 ((v24 x3 x4 x5).fdiv (2 ^ 12))) fun x7=>pick v3 (a63 ((v24 x3 x4 x5).fdiv (2 ^ 6))) fun x8=>pick v3 (a63 (v24 x3 x4 x5)) fun x9 =>
  l2_132 C N186 k j0 k ((v0.drop p2.1).take p2.2) v3 v4 ([x6,x7,x8,x9]:List Int) (i64.wrap ((((min v0.length 3):Nat):Int)+1)) Kt)))) else (Kt (v4.map fun n=>UInt8.ofNat n.toNat))):=l1_132_eq _ _ hC ..
theorem fdivN (a b:Nat):(a:Int).fdiv (b:Int)=((a / b:Nat):Int):=by rw [Int.fdiv_eq_ediv_of_nonneg _ (by omega)];rfl
theorem round132 {N186:Ty186} (hC:∀ key e t,C key e t=t e) {v0 v4:List Int} {a b c:Nat} {K:Tk132} (kk j:Nat) (h0:0<v0.length) (ha:a<256) (hb:b<256) (hc:c<256) (ht:thr v0=[(a:Int),(b:Int),(c:Int)]) :
  l1_132 C N186 kk (j+1) v0 (b64.map nI) v4 K=l2_132 C N186 kk j kk (v0.drop (min v0.length 3)) (b64.map nI) v4 [nI (sig6 (a / 4)),nI (sig6 (a % 4 * 16+b / 16)),nI (sig6 (b % 16 * 4+c / 64)),nI (sig6 (c % 64))] (((min v0.length 3+1:Nat)):Int) K:=by
 have e1:(2:Int) ^ 18=((262144:Nat):Int):=rfl
 have e2:(2:Int) ^ 12=((4096:Nat):Int):=rfl
 have e3:(2:Int) ^ 6=((64:Nat):Int):=rfl
 have e4:i64.wrap (((min v0.length 3:Nat):Int)+1)=(((min v0.length 3+1:Nat)):Int):=by rw [i64_in (by omega) (by omega)];omega
 rw [l1_132_eq' hC,dT (by omega),cond_true,cutN_from (by omega),oB,ht]
 simp only [List.getElem?_cons_zero,List.getElem?_cons_succ,oB]
 rw [v24_eq ha hb hc,e1,e2,e3,fdivN,fdivN,fdivN,a63_eq (by omega),a63_eq (by omega),a63_eq (by omega),pick_eq (by omega),pick_eq (by omega),pick_eq (by omega),pick_eq (by omega),e4]
 have q1:(a * 65536+b * 256+c) / 262144=a / 4:=by omega
 have q2:(a * 65536+b * 256+c) / 4096 % 64=a % 4 * 16+b / 16:=by omega
 have q3:(a * 65536+b * 256+c) / 64 % 64=b % 16 * 4+c / 64:=by omega
 have q4:(a * 65536+b * 256+c) % 64=c % 64:=by omega
 rw [q1,q2,q3,q4]
 have:(v0.drop (min v0.length 3)).take (v0.length - min v0.length 3)=v0.drop (min v0.length 3):=List.take_of_length_le (by rw [List.length_drop];omega)
 rw [this]
theorem pad132 {N186:Ty186} (hC:∀ key e t,C key e t=t e) {v0 v3 v4:List Int} {p q r s:Int} {n:Nat} {K:Tk132} (kk j m:Nat) (hn:n=2∨n=3∨n=4) (h4:v4.length≤4000000) :
  l2_132 C N186 kk j (m+3) v0 v3 v4 [p,q,r,s] (n:Int) K=l1_132 C N186 kk j v0 v3 (v4++[p,q,(bif decide (n<3) then 61 else r),(bif decide (n<4) then 61 else s)]) K:=by
 have fin:∀ (x y z w:Int) (m:Nat),l2_132 C N186 kk j (m+1) v0 v3 v4 [x,y,z,w] 4 K=l1_132 C N186 kk j v0 v3 (v4++[x,y,z,w]) K:=by
  intro x y z w m
  rw [l2_132_eq _ _ hC,dF (by decide),cond_false,dT (by simp),cond_true]
  have:([x,y,z,w].drop 0).take 4=[x,y,z,w]:=rfl
  rw [this,dT (by simp;omega),cond_true]
 have thr:∀ (x y z w:Int) (m:Nat),l2_132 C N186 kk j (m+2) v0 v3 v4 [x,y,z,w] 3 K=l1_132 C N186 kk j v0 v3 (v4++[x,y,z,61]) K:=by
  intro x y z w m
  rw [l2_132_eq _ _ hC,dT (by decide),cond_true,dT (by decide),Bool.and_self,cond_true,dT (by simp),cond_true]
  exact fin x y z 61 m
 rcases hn with rfl | rfl | rfl
 ·have e2:((2:Nat):Int)=2:=rfl
  rw [e2,l2_132_eq _ _ hC,dT (by decide),cond_true,dT (by decide),Bool.and_self,cond_true,dT (by simp),cond_true]
  exact thr p q 61 s m
 ·exact thr p q r s (m+1)
 ·exact fin p q r s (m+2)
theorem loop132 (hC:∀ key e t,C key e t=t e) {K:Tk132} (kk:Nat) (hk:3≤kk):∀ (b out:B) (j:Nat),b.length<j→out.length+2 * b.length≤2000000→l1_132 C A186 kk j (b.map nI) (b64.map nI) (out.map nI) K=K (out++enc b)
 | [],out,j,hj,ho=>by
  obtain ⟨j,rfl⟩:∃ i,j=i+1:=⟨j - 1,by omega⟩
  rw [l1_132_eq' hC,dF (by simp),cond_false,map_nI,enc,List.append_nil]
 | [a],out,j,hj,ho=>by
  obtain ⟨j,rfl⟩:∃ i,j=i+2:=⟨j - 2,by simp at hj;omega⟩
  obtain ⟨m,rfl⟩:∃ m,kk=m+3:=⟨kk - 3,by omega⟩
  have ha:=byte_lt a
  simp only [List.length_cons,List.length_nil] at ho
  rw [round132 (a:=a.toNat) (b:=0) (c:=0) hC (m+3) (j+1) (by simp) ha (by omega) (by omega) rfl]
  have e:((min ([a].map nI).length 3+1:Nat):Int)=((2:Nat):Int):=rfl
  have e2:([a].map nI).drop (min ([a].map nI).length 3)=([]:B).map nI:=rfl
  rw [e,e2,pad132 hC (m+3) (j+1) m (.inl rfl) (by rw [List.length_map];omega)]
  have e3:(out.map nI++[nI (sig6 (a.toNat / 4)),nI (sig6 (a.toNat % 4 * 16+0 / 16)),(bif decide (2<3) then 61 else nI (sig6 (0 % 16 * 4+0 / 64))),(bif decide (2<4) then 61 else nI (sig6 (0 % 64)))])=(out++enc [a]).map nI:=by
   rw [List.map_append,enc,show a.toNat % 4 * 16+0 / 16=a.toNat % 4 * 16 by omega];rfl
  rw [e3,l1_132_eq' hC,dF (by simp),cond_false,map_nI]
 | [a,b],out,j,hj,ho=>by
  obtain ⟨j,rfl⟩:∃ i,j=i+2:=⟨j - 2,by simp at hj;omega⟩
  obtain ⟨m,rfl⟩:∃ m,kk=m+3:=⟨kk - 3,by omega⟩
  have ha:=byte_lt a
  have hb:=byte_lt b
  simp only [List.length_cons,List.length_nil] at ho
  rw [round132 (a:=a.toNat) (b:=b.toNat) (c:=0) hC (m+3) (j+1) (by simp) ha hb (by omega) rfl]
  have e:((min ([a,b].map nI).length 3+1:Nat):Int)=((3:Nat):Int):=rfl
  have e2:([a,b].map nI).drop (min ([a,b].map nI).length 3)=([]:B).map nI:=rfl
  rw [e,e2,pad132 hC (m+3) (j+1) m (.inr (.inl rfl)) (by rw [List.length_map];omega)]
  have e3:(out.map nI++[nI (sig6 (a.toNat / 4)),nI (sig6 (a.toNat % 4 * 16+b.toNat / 16)),(bif decide (3<3) then 61 else nI (sig6 (b.toNat % 16 * 4+0 / 64))),(bif decide (3<4) then 61 else nI (sig6 (0 % 64)))])=(out++enc [a,b]).map nI:=by
   rw [List.map_append,enc,show b.toNat % 16 * 4+0 / 64=b.toNat % 16 * 4 by omega];rfl
  rw [e3,l1_132_eq' hC,dF (by simp),cond_false,map_nI]
 | a :: b :: c :: l,out,j,hj,ho=>by
  obtain ⟨j,rfl⟩:∃ i,j=i+1:=⟨j - 1,by omega⟩
  obtain ⟨m,hm⟩:∃ m,kk=m+3:=⟨kk - 3,by omega⟩
  have ha:=byte_lt a
  have hb:=byte_lt b
  have hc:=byte_lt c
  simp only [List.length_cons] at ho hj
  have hmin:min ((a :: b :: c :: l).map nI).length 3=3:=by simp only [List.map_cons,List.length_cons];omega
  have ht:thr ((a :: b :: c :: l).map nI)=[(a.toNat:Int),(b.toNat:Int),(c.toNat:Int)]:=by
   unfold thr
   rw [hmin];rfl
  have ih:=loop132 hC (K:=K) kk hk l (out++[sig6 (a.toNat / 4),sig6 (a.toNat % 4 * 16+b.toNat / 16),sig6 (b.toNat % 16 * 4+c.toNat / 64),sig6 (c.toNat % 64)]) j (by omega) (by simp only [List.length_append,List.length_cons,List.length_nil];omega)
  rw [round132 (a:=a.toNat) (b:=b.toNat) (c:=c.toNat) hC kk j (by simp) ha hb hc ht,hmin]
  have pd:=pad132 (C:=C) (N186:=A186) hC (v0:=l.map nI) (v3:=b64.map nI) (v4:=out.map nI) (p:=nI (sig6 (a.toNat / 4))) (q:=nI (sig6 (a.toNat % 4 * 16+b.toNat / 16))) (r:=nI (sig6 (b.toNat % 16 * 4+c.toNat / 64))) (s:=nI (sig6 (c.toNat % 64))) (n:=4) (K:=K) kk j m (.inr (.inr rfl)) (by rw [List.length_map];omega)
  rw [← hm] at pd
  have e2:((a :: b :: c :: l).map nI).drop 3=l.map nI:=rfl
  rw [e2]
  refine Eq.trans pd ?_
  have e3:(out.map nI++[nI (sig6 (a.toNat / 4)),nI (sig6 (a.toNat % 4 * 16+b.toNat / 16)),(bif decide (4<3) then 61 else nI (sig6 (b.toNat % 16 * 4+c.toNat / 64))),(bif decide (4<4) then 61 else nI (sig6 (c.toNat % 64)))])=(out++[sig6 (a.toNat / 4),sig6 (a.toNat % 4 * 16+b.toNat / 16),sig6 (b.toNat % 16 * 4+c.toNat / 64),sig6 (c.toNat % 64)]).map nI:=by
   rw [List.map_append];rfl
  rw [e3,ih,enc,List.append_assoc]
  rfl
def A132:Ty132:=fun l K=>if (∀ x,x ∈ l→0≤x∧x≤255)∧l.length≤1000000 then K (enc (l.map fun n=>UInt8.ofNat n.toNat)) else none
theorem A132_ok {b:B} (h:b.length≤1000000) (K:Tk132):A132 (b.map nI) K=K (enc b):=A182_ok h K
theorem eq132 (hC:∀ key e t,C key e t=t e) (l:List Int) (K:Tk132) (r:Out) (h:A132 l K=some r):run132 C A186 big l K=some r:=by
 unfold A132 at h
 split at h
 ·rename_i hs
  obtain ⟨h1,h2⟩:=hs
  have:=loop132 hC (K:=K) big (by decide) (l.map fun n=>UInt8.ofNat n.toNat) [] big (by rw [List.length_map];unfold big;omega) (by rw [List.length_map,List.length_nil];omega)
  rw [un_nI h1,List.nil_append] at this
  have e186:∀ k,A186 k=k (b64.map nI):=fun k=>rfl
  have e:((Xs.ints .u8 (b64.map nI)).toS.length==64)=true:=by decide +kernel
  rw [run132_eq,← h,e186,e,whole_true]
  exact this
 ·cases h
end Go.Proofs.YtffmgholjdfcnaaGreatDoor
