import Derived.Test.YtffmgholjdfcnaaGreatDoorYSNuH
import Derived.Test.YtffmgholjdfcnaaGreatDoorYSNuQ
import Derived.Test.YtffmgholjdfcnaaGreatDoorKSD
namespace Go.Proofs.YtffmgholjdfcnaaGreatDoor.Nu
open Go St
def b64:B:=[65,66,67,68,69,70,71,72,73,74,75,76,77,78,79,80,81,82,83,84,85,86,87,88,89,90,97,98,99,100,101,102,103,104,105,106,107,108,109,110,111,112,113,114,115,116,117,118,119,120,121,122,48,49,50,51,52,53,54,55,56,57,43,47]
def sig6 (n:Nat):UInt8:=b64.getD n 61
def plc (c:UInt8):Nat:=b64.idxOf c
theorem plc_sig {n:Nat} (h:n<64):plc (sig6 n)=n:=by
 have:∀ n:Fin 64,plc (sig6 n.val)=n.val:=by decide +kernel
 exact this ⟨n,h⟩
theorem sig_ne {n:Nat} (h:n<64):sig6 n ≠ 61:=by
 have:∀ n:Fin 64,sig6 n.val ≠ 61:=by decide +kernel
 exact this ⟨n,h⟩
theorem plc_pad:plc 61=64:=by decide +kernel
theorem plc_le (c:UInt8):plc c≤64:=List.idxOf_le_length
def enc:B→B
 | a :: b :: c :: r=>sig6 (a.toNat / 4) :: sig6 (a.toNat % 4 * 16+b.toNat / 16) :: sig6 (b.toNat % 16 * 4+c.toNat / 64) :: sig6 (c.toNat % 64) :: enc r
 | [a,b]=>[sig6 (a.toNat / 4),sig6 (a.toNat % 4 * 16+b.toNat / 16),sig6 (b.toNat % 16 * 4),61]
 | [a]=>[sig6 (a.toNat / 4),sig6 (a.toNat % 4 * 16),61,61]
 | []=>[]
def encT:B→B
 | a :: b :: c :: r=>sig6 (a.toNat / 4) :: sig6 (a.toNat % 4 * 16+b.toNat / 16) :: sig6 (b.toNat % 16 * 4+c.toNat / 64) :: sig6 (c.toNat % 64) :: encT r
 | [a,b]=>[sig6 (a.toNat / 4),sig6 (a.toNat % 4 * 16+b.toNat / 16),sig6 (b.toNat % 16 * 4)]
 | [a]=>[sig6 (a.toNat / 4),sig6 (a.toNat % 4 * 16)]
 | []=>[]
def decP:B→Nat→Nat→B→Option B
 | [],_,_,out=>some out
 | c :: l,v,bits,out=>if 63<plc c then none
  else if 8≤bits+6 then decP l ((v * 64+plc c) % 65536) (bits+6 - 8) (out++[UInt8.ofNat ((v * 64+plc c) % 65536 / 2 ^ (bits+6 - 8))])
  else decP l ((v * 64+plc c) % 65536) (bits+6) out
theorem byte_lt (a:UInt8):a.toNat<256:=a.toNat_lt
theorem ofNat_eq {n:Nat} {a:UInt8} (h:n % 256=a.toNat):UInt8.ofNat n=a:=by
 apply UInt8.toNat.inj
 simpa using h
theorem decP_step {n v bits:Nat} {l out:B} (h:n<64) (hb:bits+6<8):decP (sig6 n :: l) v bits out=decP l ((v * 64+n) % 65536) (bits+6) out:=by
 rw [decP,plc_sig h,if_neg (by omega),if_neg (by omega)]
theorem decP_byte {n v bits:Nat} {l out:B} (h:n<64) (hb:8≤bits+6):decP (sig6 n :: l) v bits out=decP l ((v * 64+n) % 65536) (bits+6 - 8) (out++[UInt8.ofNat ((v * 64+n) % 65536 / 2 ^ (bits+6 - 8))]):=by
 rw [decP,plc_sig h,if_neg (by omega),if_pos hb]
theorem decP_enc:∀ (b:B) (v:Nat) (out:B),decP (encT b) v 0 out=some (out++b)
 | a :: b :: c :: r,v,out=>by
  have ha:=byte_lt a;have hb:=byte_lt b;have hc:=byte_lt c
  rw [encT,decP_step (by omega) (by omega),decP_byte (by omega) (by omega),decP_byte (by omega) (by omega),decP_byte (by omega) (by omega)]
  have e1:UInt8.ofNat (((v * 64+a.toNat / 4) % 65536 * 64+(a.toNat % 4 * 16+b.toNat / 16)) % 65536 / 2 ^ (0+6+6 - 8))=a:=ofNat_eq (by simp only [Nat.reduceAdd,Nat.reduceSub,Nat.reducePow];omega)
  have e2:UInt8.ofNat ((((v * 64+a.toNat / 4) % 65536 * 64+(a.toNat % 4 * 16+b.toNat / 16)) % 65536 * 64+(b.toNat % 16 * 4+c.toNat / 64)) % 65536 / 2 ^ (0+6+6 - 8+6 - 8))=b:=ofNat_eq (by simp only [Nat.reduceAdd,Nat.reduceSub,Nat.reducePow];omega)
  have e3:UInt8.ofNat (((((v * 64+a.toNat / 4) % 65536 * 64+(a.toNat % 4 * 16+b.toNat / 16)) % 65536 * 64+(b.toNat % 16 * 4+c.toNat / 64)) % 65536 * 64+c.toNat % 64) % 65536 / 2 ^ (0+6+6 - 8+6 - 8+6 - 8))=c:=ofNat_eq (by simp only [Nat.reduceAdd,Nat.reduceSub,Nat.reducePow];omega)
  rw [e1,e2,e3]
  have:=decP_enc r (((((v * 64+a.toNat / 4) % 65536 * 64+(a.toNat % 4 * 16+b.toNat / 16)) % 65536 * 64+(b.toNat % 16 * 4+c.toNat / 64)) % 65536 * 64+c.toNat % 64) % 65536) (out++[a]++[b]++[c])
  simp only [Nat.reduceAdd,Nat.reduceSub]
  rw [this]
  simp
 | [a,b],v,out=>by
  have ha:=byte_lt a;have hb:=byte_lt b
  rw [encT,decP_step (by omega) (by omega),decP_byte (by omega) (by omega),decP_byte (by omega) (by omega),decP]
  have e1:UInt8.ofNat (((v * 64+a.toNat / 4) % 65536 * 64+(a.toNat % 4 * 16+b.toNat / 16)) % 65536 / 2 ^ (0+6+6 - 8))=a:=ofNat_eq (by simp only [Nat.reduceAdd,Nat.reduceSub,Nat.reducePow];omega)
  have e2:UInt8.ofNat ((((v * 64+a.toNat / 4) % 65536 * 64+(a.toNat % 4 * 16+b.toNat / 16)) % 65536 * 64+(b.toNat % 16 * 4)) % 65536 / 2 ^ (0+6+6 - 8+6 - 8))=b:=ofNat_eq (by simp only [Nat.reduceAdd,Nat.reduceSub,Nat.reducePow];omega)
  rw [e1,e2]
  simp
 | [a],v,out=>by
  have ha:=byte_lt a
  rw [encT,decP_step (by omega) (by omega),decP_byte (by omega) (by omega),decP]
  have e1:UInt8.ofNat (((v * 64+a.toNat / 4) % 65536 * 64+(a.toNat % 4 * 16)) % 65536 / 2 ^ (0+6+6 - 8))=a:=ofNat_eq (by simp only [Nat.reduceAdd,Nat.reduceSub,Nat.reducePow];omega)
  rw [e1]
 | [],v,out=>by rw [encT,decP];simp
theorem drop_pads (l:B):∀ k:Nat,(List.replicate k (61:UInt8)++l).dropWhile (· == 61)=l.dropWhile (· == 61)
 | 0=>rfl
 | k+1=>by rw [List.replicate_succ,List.cons_append,List.dropWhile_cons_of_pos (by decide),drop_pads l k]
theorem drop_none {l:B} (h:∀ c,c ∈ l→c ≠ 61):l.dropWhile (· == 61)=l:=by
 cases l with
 | nil=>rfl
 | cons c l=>exact List.dropWhile_cons_of_neg (by simpa using h c (by simp))
theorem trim_pads {l:B} (h:∀ c,c ∈ l→c ≠ 61) (k:Nat):Lib.trimRightB (l++List.replicate k 61) 61=l:=by
 unfold Lib.trimRightB
 rw [List.reverse_append,List.reverse_replicate,drop_pads,drop_none (fun c hc=>h c (by simpa using hc)),List.reverse_reverse]
theorem enc_pads:∀ b:B,∃ k,enc b=encT b++List.replicate k 61
 | a :: b :: c :: r=>by
  obtain ⟨k,h⟩:=enc_pads r
  exact ⟨k,by rw [enc,encT,h];rfl⟩
 | [a,b]=>⟨1,rfl⟩
 | [a]=>⟨2,rfl⟩
 | []=>⟨0,rfl⟩
theorem encT_ne:∀ (b:B) (c:UInt8),c ∈ encT b→c ≠ 61
 | a :: b :: c :: r,x,h=>by
  have ha:=byte_lt a;have hb:=byte_lt b;have hc:=byte_lt c
  rw [encT] at h
  simp only [List.mem_cons] at h
  rcases h with h | h | h | h | h
  ·rw [h];exact sig_ne (by omega)
  ·rw [h];exact sig_ne (by omega)
  ·rw [h];exact sig_ne (by omega)
  ·rw [h];exact sig_ne (by omega)
  ·exact encT_ne r x h
 | [a,b],x,h=>by
  have ha:=byte_lt a;have hb:=byte_lt b
  rw [encT] at h
  simp only [List.mem_cons,List.not_mem_nil,or_false] at h
  rcases h with h | h | h
  ·rw [h];exact sig_ne (by omega)
  ·rw [h];exact sig_ne (by omega)
  ·rw [h];exact sig_ne (by omega)
 | [a],x,h=>by
  have ha:=byte_lt a
  rw [encT] at h
  simp only [List.mem_cons,List.not_mem_nil,or_false] at h
  rcases h with h | h
  ·rw [h];exact sig_ne (by omega)
  ·rw [h];exact sig_ne (by omega)
 | [],x,h=>by rw [encT] at h;cases h
theorem trim_enc (b:B):Lib.trimRightB (enc b) 61=encT b:=by
 obtain ⟨k,h⟩:=enc_pads b
 rw [h,trim_pads (encT_ne b)]
def gS (last:Bool) (j:Nat) (c:UInt8) (st:Nat × Nat):Option (Nat × Nat):=
 if plc c=64 then (if c=61∧last=true∧2≤j then some (st.1 * 64,st.2+1) else none)
 else if 0<st.2 then none else some (st.1 * 64+plc c,st.2)
def grp (last:Bool) (c0 c1 c2 c3:UInt8):Option (Nat × Nat):=
 (gS last 0 c0 (0,0)).bind fun p=>(gS last 1 c1 p).bind fun p=>(gS last 2 c2 p).bind fun p=>gS last 3 c3 p
def three (v:Nat):B:=[UInt8.ofNat (v / 65536),UInt8.ofNat (v / 256),UInt8.ofNat v]
def decR:B→B→Option B
 | c0 :: c1 :: c2 :: c3 :: r,out=>match grp r.isEmpty c0 c1 c2 c3 with
  | none=>none
  | some p=>decR r (out++(three p.1).take (3 - p.2))
 | _,out=>some out
theorem gS_sig {last:Bool} {j n v:Nat} (h:n<64):gS last j (sig6 n) (v,0)=some (v * 64+n,0):=by
 unfold gS
 rw [plc_sig h,if_neg (by omega),if_neg (by simp)]
theorem gS_pad {j v p:Nat} (h:2≤j):gS true j 61 (v,p)=some (v * 64,p+1):=by
 unfold gS
 rw [plc_pad,if_pos rfl,if_pos ⟨rfl,rfl,h⟩]
theorem decR_enc:∀ (b out:B),decR (enc b) out=some (out++b)
 | a :: b :: c :: r,out=>by
  have ha:=byte_lt a;have hb:=byte_lt b;have hc:=byte_lt c
  rw [enc,decR]
  unfold grp
  rw [gS_sig (by omega),Option.bind_some,gS_sig (by omega),Option.bind_some,gS_sig (by omega),Option.bind_some,gS_sig (by omega)]
  simp only
  have e:three ((((0 * 64+a.toNat / 4) * 64+(a.toNat % 4 * 16+b.toNat / 16)) * 64+(b.toNat % 16 * 4+c.toNat / 64)) * 64+c.toNat % 64)=[a,b,c]:=by
   unfold three
   rw [ofNat_eq (a:=a) (by omega),ofNat_eq (a:=b) (by omega),ofNat_eq (a:=c) (by omega)]
  rw [e,decR_enc r]
  simp
 | [a,b],out=>by
  have ha:=byte_lt a;have hb:=byte_lt b
  rw [enc,decR]
  unfold grp
  rw [gS_sig (by omega),Option.bind_some,gS_sig (by omega),Option.bind_some,gS_sig (by omega),Option.bind_some,List.isEmpty_nil,gS_pad (by omega)]
  simp only
  have e:(three ((((0 * 64+a.toNat / 4) * 64+(a.toNat % 4 * 16+b.toNat / 16)) * 64+(b.toNat % 16 * 4)) * 64)).take (3 - (0+1))=[a,b]:=by
   unfold three
   rw [ofNat_eq (a:=a) (by omega),ofNat_eq (a:=b) (by omega)]
   rfl
  rw [e,decR]
  simp
 | [a],out=>by
  have ha:=byte_lt a
  rw [enc,decR]
  unfold grp
  rw [gS_sig (by omega),Option.bind_some,gS_sig (by omega),Option.bind_some,List.isEmpty_nil,gS_pad (by omega),Option.bind_some,gS_pad (by omega)]
  simp only
  have e:(three ((((0 * 64+a.toNat / 4) * 64+(a.toNat % 4 * 16)) * 64) * 64)).take (3 - (0+1+1))=[a]:=by
   unfold three
   rw [ofNat_eq (a:=a) (by omega)]
   rfl
  rw [e,decR]
  simp
 | [],out=>by rw [enc,decR];simp;intros;contradiction
theorem enc_len:∀ b:B,(enc b).length=(b.length+2) / 3 * 4
 | a :: b :: c :: r=>by rw [enc];simp only [List.length_cons];rw [enc_len r];omega
 | [a,b]=>by simp [enc]
 | [a]=>by simp [enc]
 | []=>rfl
def dec64 (t:B):Option B:=match decP (Lib.trimRightB t 61) 0 0 [] with
 | some b=>if enc b=t then some b else none
 | none=>none
def dec64R (t:B):Option B:=if t.length % 4=0 then (match decR t [] with
 | some b=>if enc b=t then some b else none
 | none=>none) else none
theorem dec64_enc (b:B):dec64 (enc b)=some b:=by
 unfold dec64
 rw [trim_enc,decP_enc,List.nil_append]
 exact if_pos rfl
theorem dec64R_enc (b:B):dec64R (enc b)=some b:=by
 unfold dec64R
 rw [if_pos (by rw [enc_len];omega),decR_enc,List.nil_append]
 exact if_pos rfl
theorem dec64_some {t b:B} (h:dec64 t=some b):enc b=t:=by
 unfold dec64 at h
 split at h
 ·split at h
  ·injection h with h;subst h;assumption
  ·cases h
 ·cases h
theorem dec64R_some {t b:B} (h:dec64R t=some b):enc b=t:=by
 unfold dec64R at h
 split at h
 ·split at h
  ·split at h
   ·injection h with h;subst h;assumption
   ·cases h
  ·cases h
 ·cases h
theorem dec_same (t:B):dec64R t=dec64 t:=by
 cases h:dec64 t with
 | some b=>rw [← dec64_some h,dec64R_enc]
 | none =>
  cases h2:dec64R t with
  | none=>rfl
  | some b=>rw [← dec64R_some h2,dec64_enc] at h;cases h
def clean (s:B):B:=s.filter fun c=>!(c==32 || c==9 || c==10 || c==13)
theorem clean_clean (s:B):clean (clean s)=clean s:=by unfold clean;simp
theorem clean_len (s:B):(clean s).length≤s.length:=List.length_filter_le _ _
def binT (s:B):B × Bool:=match dec64 (clean s) with
 | some _=>(clean s,true)
 | none=>([],false)
theorem binT_again {s:B} (h:(binT s).2=true):binT (binT s).1=binT s:=by
 unfold binT at h ⊢
 cases e:dec64 (clean s) with
 | none=>rw [e] at h;cases h
 | some b=>simp only [clean_clean,e]
end Go.Proofs.YtffmgholjdfcnaaGreatDoor.Nu
set_option linter.unusedSimpArgs false
set_option linter.unusedVariables false
namespace Go.Proofs.YtffmgholjdfcnaaGreatDoor
open Go AM St Nu
open Go.IntKind (i64 u8)
variable {C:Nat→Env→(Env→Option Out)→Option Out}
theorem clean_cons (c:UInt8) (l:B):clean (c :: l)=bif c==32 || c==9 || c==10 || c==13 then clean l else c :: clean l:=by
 unfold clean
 rw [List.filter_cons]
 cases c==32 || c==9 || c==10 || c==13<;>rfl
def A129:Ty129:=fun s K=>if s.length≤1000000 then K (clean s) else none
theorem loop129 (hC:∀ key e t,C key e t=t e) {s:B} (hs:s.length≤1000000) {K:Tk129} (kk:Nat):∀ (l out:B) (j:Nat),l <:+ s→l.length<j→out.length+l.length≤1000000→l1_129 C kk j s (out.map nI) (Pt s l) K=K (out++clean l)
 | [],out,j,h,hj,ho=>by
  obtain ⟨j,rfl⟩:∃ i,j=i+1:=⟨j - 1,by omega⟩
  rw [l1_129_eq _ hC,Pt_end,dF (by omega),cond_false,map_nI]
  unfold clean
  rw [List.filter_nil,List.append_nil]
 | c :: l,out,j,h,hj,ho=>by
  obtain ⟨j,rfl⟩:∃ i,j=i+1:=⟨j - 1,by omega⟩
  have hl:l <:+ s:=(List.suffix_cons c l).trans h
  simp only [List.length_cons] at hj ho
  have ih:=loop129 hC hs (K:=K) kk l out j hl (by omega) (by omega)
  have ih2:=loop129 hC hs (K:=K) kk l (out++[c]) j hl (by omega) (by rw [List.length_append,List.length_singleton];omega)
  rw [List.map_append,List.map_cons,List.map_nil] at ih2
  have hb:decide ((out.map nI++[nI c]).length≤1099511627776)=true:=dT (by rw [List.length_append,List.length_map,List.length_singleton];omega)
  rw [l1_129_eq _ hC,dT (Pt_lt h),cond_true,at_Pt h]
  simp only [oB]
  have e:(c.toNat:Int)=nI c:=rfl
  rw [neB 32 (n:=32) rfl,neB 9 (n:=9) rfl,neB 10 (n:=10) rfl,neB 13 (n:=13) rfl,e,hb,Pt_succ h (by omega),ih,ih2,clean_cons]
  cases c==32<;>cases c==9<;>cases c==10<;>cases c==13<;>simp
theorem eq129 (hC:∀ key e t,C key e t=t e) (s:B) (K:Tk129) (r:Out) (h:A129 s K=some r):run129 C big s K=some r:=by
 unfold A129 at h
 split at h
 ·rename_i hs
  rw [run129_eq,← h]
  have:=loop129 hC hs (K:=K) big s [] big (List.suffix_refl s) (by unfold big;omega) (by simpa using hs)
  rw [Pt_zero] at this
  exact this
 ·cases h
def numC (c:UInt8):Int:=if plc c=64 then -1 else (plc c:Int)
def fnd (c:UInt8):B→Int
 | []=>-1
 | x :: l=>bif x==c then Pt b64 (x :: l) else fnd c l
theorem fnd_num (c:UInt8):fnd c b64=numC c:=allU8 (P:=fun c=>fnd c b64=numC c) (by decide +kernel) c
def A181:Ty181:=fun c K=>if 0≤c∧c≤255 then K (numC (UInt8.ofNat c.toNat)) else none
theorem l1_181_eq' (hC:∀ key e t,C key e t=t e) (k j0:Nat) (v0 v3:Int) (Kt:Tk181):l1_181 C k (j0+1) v0 v3 Kt =
  (bif (decide (v3<(b64.length:Int))) then ((at? b64 v3).bind fun b1=>(bif ((b1.toNat:Int)==v0) then (Kt v3) else (l1_181 C k j0 v0 (i64.wrap (v3+1)) Kt))) else (Kt (-1))):=l1_181_eq _ hC ..
theorem loop181 (hC:∀ key e t,C key e t=t e) (c:UInt8) {K:Tk181} (kk:Nat):∀ (l:B) (j:Nat),l <:+ b64→l.length<j→l1_181 C kk j (nI c) (Pt b64 l) K=K (fnd c l)
 | [],j,h,hj=>by
  obtain ⟨j,rfl⟩:∃ i,j=i+1:=⟨j - 1,by omega⟩
  rw [l1_181_eq' hC,Pt_end,dF (by omega),cond_false,fnd]
 | x :: l,j,h,hj=>by
  obtain ⟨j,rfl⟩:∃ i,j=i+1:=⟨j - 1,by omega⟩
  have hl:l <:+ b64:=(List.suffix_cons x l).trans h
  have ih:=loop181 hC c (K:=K) kk l j hl (by simp at hj;omega)
  have e:((x.toNat:Int)==nI c)=(x==c):=eqB c rfl x
  rw [l1_181_eq' hC,dT (Pt_lt h),cond_true,at_Pt h,oB,Pt_succ h (by decide),ih,e,fnd]
  cases x==c<;>rfl
theorem eq181 (hC:∀ key e t,C key e t=t e) (c:Int) (K:Tk181) (r:Out) (h:A181 c K=some r):run181 C big c K=some r:=by
 unfold A181 at h
 split at h
 ·rename_i hs
  have e:nI (UInt8.ofNat c.toNat)=c:=by
   unfold nI
   rw [UInt8.toNat_ofNat_of_lt' (by show c.toNat<256;omega)]
   omega
  have:=loop181 hC (UInt8.ofNat c.toNat) (K:=K) big b64 big (List.suffix_refl _) (by decide)
  rw [Pt_zero,e,fnd_num] at this
  rw [run181_eq,← h]
  exact this
 ·cases h
theorem A181_ok (c:UInt8) (K:Tk181):A181 (nI c) K=K (numC c):=by
 unfold A181
 rw [if_pos (by have:=byte_lt c;unfold nI;omega),ofNat_nI]
def A182:Ty182:=fun l K=>if (∀ x,x ∈ l→0≤x∧x≤255)∧l.length≤1000000 then K (enc (l.map fun n=>UInt8.ofNat n.toNat)) else none
theorem at64 {n:Nat} (h:n<64):at? b64 (n:Int)=some (sig6 n):=by
 unfold at?
 rw [if_pos (by omega),Int.toNat_natCast]
 unfold sig6
 rw [List.getD_eq_getElem?_getD,List.getElem?_eq_getElem (show n<b64.length from h)]
 rfl
theorem p3_182_eq' (hC:∀ key e t,C key e t=t e) (k j0:Nat) (v0 v3:List Int) (v4 v5:Int) (Kt:Tk182):p3_182 C k j0 v0 v3 v4 v5 Kt =
 ((at? b64 (i64.wrap (v5.tdiv 262144))).bind fun b4=>((at? b64 ((i64.wrap (v5.tdiv 4096)).tmod 64)).bind fun b5=>(bif decide ((v3++([(b4.toNat:Int),(b5.toNat:Int),61,61]:List Int)).length≤1099511627776) then (bif (decide ((i64.wrap (v4+1))<(v0.length:Int))) then ((at? b64 ((i64.wrap (v5.tdiv 64)).tmod 64)).bind fun b6=>(bif (decide (0≤(i64.wrap (((v3++([(b4.toNat:Int),(b5.toNat:Int),61,61]:List Int)).length:Int) - 2)))&&decide ((i64.wrap (((v3++([(b4.toNat:Int),(b5.toNat:Int),61,61]:List Int)).length:Int) - 2))<((v3++([(b4.toNat:Int),(b5.toNat:Int),61,61]:List Int)).length:Int))) then (bif decide ((i64.wrap (((v3++([(b4.toNat:Int),(b5.toNat:Int),61,61]:List Int)).length:Int) - 2)).toNat<(v3++([(b4.toNat:Int),(b5.toNat:Int),61,61]:List Int)).length) then (p4_182 C k j0 v0 ((v3++([(b4.toNat:Int),(b5.toNat:Int),61,61]:List Int)).set (i64.wrap (((v3++([(b4.toNat:Int),(b5.toNat:Int),61,61]:List Int)).length:Int) - 2)).toNat (b6.toNat:Int)) v4 v5 Kt) else none) else none)) else (p4_182 C k j0 v0 (v3++([(b4.toNat:Int),(b5.toNat:Int),61,61]:List Int)) v4 v5 Kt)) else none))):=p3_182_eq _ hC ..
theorem p4_182_eq' (hC:∀ key e t,C key e t=t e) (k j0:Nat) (v0 v3:List Int) (v4 v5:Int) (Kt:Tk182):p4_182 C k j0 v0 v3 v4 v5 Kt =
 (bif (decide ((i64.wrap (v4+2))<(v0.length:Int))) then ((at? b64 (v5.tmod 64)).bind fun b7=>(bif (decide (0≤(i64.wrap ((v3.length:Int) - 1)))&&decide ((i64.wrap ((v3.length:Int) - 1))<(v3.length:Int))) then (bif decide ((i64.wrap ((v3.length:Int) - 1)).toNat<v3.length) then (p5_182 C k j0 v0 (v3.set (i64.wrap ((v3.length:Int) - 1)).toNat (b7.toNat:Int)) v4 Kt) else none) else none)) else (p5_182 C k j0 v0 v3 v4 Kt)):=p4_182_eq _ hC ..
theorem set2 (O:List Int) (p q r s z:Int):(O++[p,q,r,s]).set (O.length+2) z=O++[p,q,z,s]:=by
 rw [List.set_append,if_neg (by omega),Nat.add_sub_cancel_left];rfl
theorem set3 (O:List Int) (p q r s z:Int):(O++[p,q,r,s]).set (O.length+3) z=O++[p,q,r,z]:=by
 rw [List.set_append,if_neg (by omega),Nat.add_sub_cancel_left];rfl
theorem p4_go (hC:∀ key e t,C key e t=t e) {O v0:List Int} {p q r i:Int} {V:Nat} {d2:Bool} {K:Tk182} (kk j:Nat) (hO:O.length≤2000000) (h2:decide (i64.wrap (i+2)<(v0.length:Int))=d2) :
  p4_182 C kk j v0 (O++[p,q,r,61]) i (V:Int) K=p5_182 C kk j v0 (O++[p,q,r,(bif d2 then nI (sig6 (V % 64)) else 61)]) i K:=by
 rw [p4_182_eq' hC,h2]
 cases d2 with
 | false=>rfl
 | true =>
  have e1:((V:Int).tmod 64)=((V % 64:Nat):Int):=by rw [tmod_nn (by omega)];omega
  have hl:(O++[p,q,r,61]).length=O.length+4:=by simp
  have e2:i64.wrap (((O.length+4:Nat):Int) - 1)=((O.length+3:Nat):Int):=by rw [i64_in (by omega) (by omega)];omega
  rw [cond_true,e1,at64 (by omega),oB,hl,e2,Int.toNat_natCast,set3,dT (show (0:Int)≤((O.length+3:Nat):Int) by omega),dT (show ((O.length+3:Nat):Int)<((O.length+4:Nat):Int) by omega),dT (show O.length+3<O.length+4 by omega)]
  rfl
theorem p3_go (hC:∀ key e t,C key e t=t e) {O v0:List Int} {i:Int} {V:Nat} {d1 d2:Bool} {K:Tk182} (kk j:Nat) (hO:O.length≤2000000) (hV:V<16777216) (h1:decide (i64.wrap (i+1)<(v0.length:Int))=d1) (h2:decide (i64.wrap (i+2)<(v0.length:Int))=d2) :
  p3_182 C kk j v0 O i (V:Int) K=p5_182 C kk j v0 (O++[nI (sig6 (V / 262144)),nI (sig6 (V / 4096 % 64)),(bif d1 then nI (sig6 (V / 64 % 64)) else 61),(bif d2 then nI (sig6 (V % 64)) else 61)]) i K:=by
 have e1:i64.wrap ((V:Int).tdiv 262144)=((V / 262144:Nat):Int):=by rw [tdiv_nn (by omega),i64_in (by omega) (by omega)];omega
 have e2:(i64.wrap ((V:Int).tdiv 4096)).tmod 64=((V / 4096 % 64:Nat):Int):=by rw [tdiv_nn (by omega),i64_in (by omega) (by omega),tmod_nn (by omega)];omega
 have e3:(i64.wrap ((V:Int).tdiv 64)).tmod 64=((V / 64 % 64:Nat):Int):=by rw [tdiv_nn (by omega),i64_in (by omega) (by omega),tmod_nn (by omega)];omega
 have c1:((sig6 (V / 262144)).toNat:Int)=nI (sig6 (V / 262144)):=rfl
 have c2:((sig6 (V / 4096 % 64)).toNat:Int)=nI (sig6 (V / 4096 % 64)):=rfl
 have hl:∀ x y:Int,(O++[x,y,61,61]).length=O.length+4:=fun x y=>by simp
 rw [p3_182_eq' hC,e1,e2,at64 (by omega),at64 (by omega),oB,oB,h1,c1,c2,hl,dT (show O.length+4≤1099511627776 by omega),cond_true]
 cases d1 with
 | false=>exact p4_go hC kk j hO h2
 | true =>
  have e4:i64.wrap (((O.length+4:Nat):Int) - 2)=((O.length+2:Nat):Int):=by rw [i64_in (by omega) (by omega)];omega
  rw [cond_true,e3,at64 (by omega),oB,e4,Int.toNat_natCast,set2,dT (show (0:Int)≤((O.length+2:Nat):Int) by omega),dT (show ((O.length+2:Nat):Int)<((O.length+4:Nat):Int) by omega),dT (show O.length+2<O.length+4 by omega)]
  exact p4_go hC kk j hO h2
theorem end182 (hC:∀ key e t,C key e t=t e) {v0:List Int} {out:B} {i:Int} {K:Tk182} (kk j:Nat) (h:(v0.length:Int)≤i):l1_182 C kk (j+1) v0 (out.map nI) i K=K out:=by
 rw [l1_182_eq _ hC,dF (by omega),cond_false,map_nI]
theorem idx_Pt {s l:B} {c:UInt8} (h:c :: l <:+ s):(s.map nI)[(Pt s (c :: l)).toNat]?=some (nI c):=by
 have h1:=at_Pt h
 unfold at? at h1
 rw [if_pos (Pt_nn _ _)] at h1
 rw [List.getElem?_map,h1];rfl
theorem Pt_val {s l:B} (h:l <:+ s):Pt s l+l.length=s.length:=by
 have:=h.length_le
 unfold Pt;omega
theorem loop182 (hC:∀ key e t,C key e t=t e) {s:B} (hs:s.length≤1000000) {K:Tk182} (kk:Nat):∀ (l out:B) (j:Nat),l <:+ s→l.length+1<j→out.length+2 * l.length≤2000000→l1_182 C kk j (s.map nI) (out.map nI) (Pt s l) K=K (out++enc l)
 | [],out,j,h,hj,ho=>by
  obtain ⟨j,rfl⟩:∃ i,j=i+1:=⟨j - 1,by omega⟩
  rw [end182 hC kk j (by rw [List.length_map,Pt_end];omega),enc,List.append_nil]
 | [a],out,j,h,hj,ho=>by
  obtain ⟨j,rfl⟩:∃ i,j=i+2:=⟨j - 2,by simp at hj;omega⟩
  have hp:=Pt_val h
  have ha:=byte_lt a
  have p0:=Pt_nn s [a]
  simp only [List.length_cons,List.length_nil] at hp ho
  have hw1:i64.wrap (Pt s [a]+1)=Pt s [a]+1:=i64_in (by omega) (by omega)
  have hw2:i64.wrap (Pt s [a]+2)=Pt s [a]+2:=i64_in (by omega) (by omega)
  have hw3:i64.wrap (Pt s [a]+3)=Pt s [a]+3:=i64_in (by omega) (by omega)
  have hL:(((s.map nI).length:Nat):Int)=(s.length:Int):=by rw [List.length_map]
  have d1:decide (i64.wrap (Pt s [a]+1)<(((s.map nI).length:Nat):Int))=false:=by rw [hw1,hL];exact dF (by omega)
  have d2:decide (i64.wrap (Pt s [a]+2)<(((s.map nI).length:Nat):Int))=false:=by rw [hw2,hL];exact dF (by omega)
  have eV:i64.wrap (i64.wrap (nI a) * 65536)=((a.toNat * 65536:Nat):Int):=by
   unfold nI
   rw [i64_in (n:=(a.toNat:Int)) (by omega) (by omega),i64_in (by omega) (by omega)];omega
  have d1':decide (i64.wrap (Pt s [a]+1)<(s.length:Int))=false:=by rw [← hL];exact d1
  rw [l1_182_eq _ hC,hL,dT (show Pt s [a]<(s.length:Int) by omega),dT p0,cond_true,Bool.and_self,cond_true,idx_Pt h,oB,d1',cond_false,eV,p2_182_eq _ hC,d2,cond_false,
   p3_go hC kk _ (by rw [List.length_map];omega) (by omega) d1 d2,p5_182_eq _ hC,hw3]
  have e:(out.map nI++[nI (sig6 (a.toNat * 65536 / 262144)),nI (sig6 (a.toNat * 65536 / 4096 % 64)),(bif false then nI (sig6 (a.toNat * 65536 / 64 % 64)) else 61),(bif false then nI (sig6 (a.toNat * 65536 % 64)) else 61)])=(out++enc [a]).map nI:=by
   rw [List.map_append,enc,show a.toNat * 65536 / 262144=a.toNat / 4 by omega,show a.toNat * 65536 / 4096 % 64=a.toNat % 4 * 16 by omega];rfl
  rw [e]
  exact end182 hC kk j (by rw [hL];omega)
 | [a,b],out,j,h,hj,ho=>by
  obtain ⟨j,rfl⟩:∃ i,j=i+2:=⟨j - 2,by simp at hj;omega⟩
  have hb':[b] <:+ s:=(List.suffix_cons a [b]).trans h
  have hp:=Pt_val h
  have ha:=byte_lt a
  have hb:=byte_lt b
  have p0:=Pt_nn s [a,b]
  simp only [List.length_cons,List.length_nil] at hp ho
  have hw1:i64.wrap (Pt s [a,b]+1)=Pt s [b]:=Pt_succ h (by omega)
  have hw2:i64.wrap (Pt s [a,b]+2)=Pt s [a,b]+2:=i64_in (by omega) (by omega)
  have hw3:i64.wrap (Pt s [a,b]+3)=Pt s [a,b]+3:=i64_in (by omega) (by omega)
  have hL:(((s.map nI).length:Nat):Int)=(s.length:Int):=by rw [List.length_map]
  have hp1:=Pt_lt hb'
  have d1:decide (i64.wrap (Pt s [a,b]+1)<(((s.map nI).length:Nat):Int))=true:=by rw [hw1,hL];exact dT hp1
  have d2:decide (i64.wrap (Pt s [a,b]+2)<(((s.map nI).length:Nat):Int))=false:=by rw [hw2,hL];exact dF (by omega)
  have eV:i64.wrap (i64.wrap (i64.wrap (nI a) * 65536)+i64.wrap (i64.wrap (nI b) * 256))=((a.toNat * 65536+b.toNat * 256:Nat):Int):=by
   unfold nI
   rw [i64_in (n:=(a.toNat:Int)) (by omega) (by omega),i64_in (n:=(b.toNat:Int)) (by omega) (by omega),i64_in (n:=(a.toNat:Int) * 65536) (by omega) (by omega),i64_in (n:=(b.toNat:Int) * 256) (by omega) (by omega),i64_in (by omega) (by omega)];omega
  rw [l1_182_eq _ hC,hL,dT (show Pt s [a,b]<(s.length:Int) by omega),dT p0,cond_true,Bool.and_self,cond_true,idx_Pt h,oB,hw1,dT hp1,cond_true,dT (Pt_nn s [b]),Bool.and_self,cond_true,idx_Pt hb',oB,eV,p2_182_eq _ hC,d2,cond_false,
   p3_go hC kk _ (by rw [List.length_map];omega) (by omega) d1 d2,p5_182_eq _ hC,hw3]
  have e:(out.map nI++[nI (sig6 ((a.toNat * 65536+b.toNat * 256) / 262144)),nI (sig6 ((a.toNat * 65536+b.toNat * 256) / 4096 % 64)),(bif true then nI (sig6 ((a.toNat * 65536+b.toNat * 256) / 64 % 64)) else 61),(bif false then nI (sig6 ((a.toNat * 65536+b.toNat * 256) % 64)) else 61)])=(out++enc [a,b]).map nI:=by
   rw [List.map_append,enc,show (a.toNat * 65536+b.toNat * 256) / 262144=a.toNat / 4 by omega,show (a.toNat * 65536+b.toNat * 256) / 4096 % 64=a.toNat % 4 * 16+b.toNat / 16 by omega,show (a.toNat * 65536+b.toNat * 256) / 64 % 64=b.toNat % 16 * 4 by omega];rfl
  rw [e]
  exact end182 hC kk j (by rw [hL];omega)
 | a :: b :: c :: l,out,j,h,hj,ho=>by
  obtain ⟨j,rfl⟩:∃ i,j=i+1:=⟨j - 1,by omega⟩
  have hb':b :: c :: l <:+ s:=(List.suffix_cons a _).trans h
  have hc':c :: l <:+ s:=(List.suffix_cons b _).trans hb'
  have hl':l <:+ s:=(List.suffix_cons c _).trans hc'
  have hp:=Pt_val h
  have ha:=byte_lt a
  have hb:=byte_lt b
  have hc:=byte_lt c
  have p0:=Pt_nn s (a :: b :: c :: l)
  simp only [List.length_cons] at hp ho hj
  have ih:=loop182 hC hs (K:=K) kk l (out++[sig6 (a.toNat / 4),sig6 (a.toNat % 4 * 16+b.toNat / 16),sig6 (b.toNat % 16 * 4+c.toNat / 64),sig6 (c.toNat % 64)]) j hl' (by omega) (by simp only [List.length_append,List.length_cons,List.length_nil];omega)
  have q1:=Pt_cons h
  have q2:=Pt_cons hb'
  have q3:=Pt_cons hc'
  have hw1:i64.wrap (Pt s (a :: b :: c :: l)+1)=Pt s (b :: c :: l):=Pt_succ h (by omega)
  have hw2:i64.wrap (Pt s (a :: b :: c :: l)+2)=Pt s (c :: l):=by rw [i64_in (by omega) (by omega)];omega
  have hw3:i64.wrap (Pt s (a :: b :: c :: l)+3)=Pt s l:=by rw [i64_in (by omega) (by omega)];omega
  have hL:(((s.map nI).length:Nat):Int)=(s.length:Int):=by rw [List.length_map]
  have hp1:=Pt_lt hb'
  have hp2:=Pt_lt hc'
  have d1:decide (i64.wrap (Pt s (a :: b :: c :: l)+1)<(((s.map nI).length:Nat):Int))=true:=by rw [hw1,hL];exact dT hp1
  have d2:decide (i64.wrap (Pt s (a :: b :: c :: l)+2)<(((s.map nI).length:Nat):Int))=true:=by rw [hw2,hL];exact dT hp2
  have eV:i64.wrap (i64.wrap (i64.wrap (nI a) * 65536)+i64.wrap (i64.wrap (nI b) * 256))=((a.toNat * 65536+b.toNat * 256:Nat):Int):=by
   unfold nI
   rw [i64_in (n:=(a.toNat:Int)) (by omega) (by omega),i64_in (n:=(b.toNat:Int)) (by omega) (by omega),i64_in (n:=(a.toNat:Int) * 65536) (by omega) (by omega),i64_in (n:=(b.toNat:Int) * 256) (by omega) (by omega),i64_in (by omega) (by omega)];omega
  have eV2:i64.wrap (((a.toNat * 65536+b.toNat * 256:Nat):Int)+i64.wrap (nI c))=((a.toNat * 65536+b.toNat * 256+c.toNat:Nat):Int):=by
   unfold nI
   rw [i64_in (n:=(c.toNat:Int)) (by omega) (by omega),i64_in (by omega) (by omega)];omega
  rw [l1_182_eq _ hC,hL,dT (show Pt s (a :: b :: c :: l)<(s.length:Int) by omega),dT p0,cond_true,Bool.and_self,cond_true,idx_Pt h,oB,hw1,dT hp1,cond_true,dT (Pt_nn s (b :: c :: l)),Bool.and_self,cond_true,idx_Pt hb',oB,eV,p2_182_eq _ hC,d2,cond_true,hw2,
   dT (Pt_nn s (c :: l)),Bool.and_self,cond_true,idx_Pt hc',oB,eV2,p3_go hC kk _ (by rw [List.length_map];omega) (by omega) d1 d2,p5_182_eq _ hC,hw3]
  have e:(out.map nI++[nI (sig6 ((a.toNat * 65536+b.toNat * 256+c.toNat) / 262144)),nI (sig6 ((a.toNat * 65536+b.toNat * 256+c.toNat) / 4096 % 64)),(bif true then nI (sig6 ((a.toNat * 65536+b.toNat * 256+c.toNat) / 64 % 64)) else 61),(bif true then nI (sig6 ((a.toNat * 65536+b.toNat * 256+c.toNat) % 64)) else 61)])=(out++[sig6 (a.toNat / 4),sig6 (a.toNat % 4 * 16+b.toNat / 16),sig6 (b.toNat % 16 * 4+c.toNat / 64),sig6 (c.toNat % 64)]).map nI:=by
   rw [List.map_append,show (a.toNat * 65536+b.toNat * 256+c.toNat) / 262144=a.toNat / 4 by omega,show (a.toNat * 65536+b.toNat * 256+c.toNat) / 4096 % 64=a.toNat % 4 * 16+b.toNat / 16 by omega,show (a.toNat * 65536+b.toNat * 256+c.toNat) / 64 % 64=b.toNat % 16 * 4+c.toNat / 64 by omega,show (a.toNat * 65536+b.toNat * 256+c.toNat) % 64=c.toNat % 64 by omega];rfl
  rw [e,ih,enc,List.append_assoc]
  rfl
theorem A182_ok {b:B} (h:b.length≤1000000) (K:Tk182):A182 (b.map nI) K=K (enc b):=by
 unfold A182
 rw [if_pos ⟨fun x hx=>by obtain ⟨c,-,rfl⟩:=List.mem_map.1 hx;have:=byte_lt c;unfold nI;omega,by rw [List.length_map];exact h⟩,map_nI]
theorem un_nI {l:List Int} (h:∀ x,x ∈ l→0≤x∧x≤255):(l.map fun n=>UInt8.ofNat n.toNat).map nI=l:=by
 rw [List.map_map]
 conv=>rhs;rw [← List.map_id l]
 refine List.map_congr_left fun n hn=>?_
 have:=h n hn
 show nI (UInt8.ofNat n.toNat)=n
 unfold nI
 rw [UInt8.toNat_ofNat_of_lt' (by show n.toNat<256;omega)]
 omega
theorem eq182 (hC:∀ key e t,C key e t=t e) (l:List Int) (K:Tk182) (r:Out) (h:A182 l K=some r):run182 C big l K=some r:=by
 unfold A182 at h
 split at h
 ·rename_i hs
  obtain ⟨h1,h2⟩:=hs
  have:=loop182 hC (s:=l.map fun n=>UInt8.ofNat n.toNat) (by rw [List.length_map];exact h2) (K:=K) big (l.map fun n=>UInt8.ofNat n.toNat) [] big (List.suffix_refl _) (by rw [List.length_map];unfold big;omega) (by rw [List.length_map,List.length_nil];omega)
  rw [Pt_zero,un_nI h1,List.nil_append] at this
  rw [run182_eq,← h]
  exact this
 ·cases h
end Go.Proofs.YtffmgholjdfcnaaGreatDoor
set_option linter.unusedSimpArgs false
set_option linter.unusedVariables false
namespace Go.Proofs.YtffmgholjdfcnaaGreatDoor
open Go AM St Nu
open Go.IntKind (i64 u8)
variable {C:Nat→Env→(Env→Option Out)→Option Out}
theorem cutN_to {n b:Nat} (h:b≤n):cutN n none (some (b:Int))=some (0,b):=by
 unfold cutN
 simp [h]
theorem w8_nat (n:Nat):u8.wrap (n:Int)=nI (UInt8.ofNat n):=by
 rw [IntKind.wrap_u8]
 unfold nI
 simp
theorem numC_neg (c:UInt8):decide (numC c<0)=decide (plc c=64):=by
 unfold numC
 by_cases h:plc c=64
 ·rw [if_pos h,dT h];rfl
 ·rw [if_neg h,dF h];exact dF (by omega)
theorem gS_bd {last:Bool} {j:Nat} {c:UInt8} {st q:Nat × Nat} (h:gS last j c st=some q):q.1≤st.1 * 64+63∧q.2≤st.2+1∧(j<2→q.2=st.2):=by
 unfold gS at h
 have:=plc_le c
 split at h
 ·split at h
  ·injection h with h;subst h;exact ⟨by simp,Nat.le_refl _,fun e=>by omega⟩
  ·cases h
 ·split at h
  ·cases h
  ·injection h with h;subst h;exact ⟨by simp;omega,by simp,fun _=>rfl⟩
def grpK (K:Tk128) (f:Nat × Nat→Option Out):Option (Nat × Nat)→Option Out
 | none=>K [] false
 | some q=>f q
theorem step128 (hC:∀ key e t,C key e t=t e) {t:B} {O:List Int} {i:Int} {v p j:Nat} {c:UInt8} {last:Bool} {K:Tk128} (kk j0 j1:Nat) (hj:j<4) (hv:v<16777216) (hp:p≤4)
  (hat:at? t (i64.wrap (i+(j:Int)))=some c) (hl:(i64.wrap (i+4)==(t.length:Int))=last) :
  l2_128 C A129 A181 A182 kk j0 (j1+1) t O i (v:Int) (p:Int) (j:Int) K=grpK K (fun q=>l2_128 C A129 A181 A182 kk j0 j1 t O i (q.1:Int) (q.2:Int) ((j+1:Nat):Int) K) (gS last j c (v,p)):=by
 have e0:(c.toNat:Int)=nI c:=rfl
 have e61:(nI c==61)=(c==61):=eqB 61 (n:=61) rfl c
 have w1:i64.wrap ((j:Int)+1)=((j+1:Nat):Int):=by rw [i64_in (by omega) (by omega)];omega
 have w2:i64.wrap ((p:Int)+1)=((p+1:Nat):Int):=by rw [i64_in (by omega) (by omega)];omega
 have w3:i64.wrap ((v:Int) * 64)=((v * 64:Nat):Int):=by rw [i64_in (by omega) (by omega)];omega
 have w4:i64.wrap (((v * 64:Nat):Int)+0)=((v * 64:Nat):Int):=by rw [i64_in (by omega) (by omega)];omega
 have hpl:=plc_le c
 rw [l2_128_eq _ _ _ _ hC,dT (show (j:Int)<4 by omega),cond_true,hat,oB,e0,A181_ok,numC_neg,oB,e0,e61,hl,w1,w2,w3,w4]
 unfold gS
 by_cases h:plc c=64
 ·rw [dT h,if_pos h,cond_true]
  simp only [cond_true]
  by_cases h61:c=61
  ·have:(c==(61:UInt8))=true:=by simpa using h61
   rw [this,cond_true]
   cases last with
   | false=>rw [cond_false,if_neg (by simp)];rfl
   | true =>
    rw [cond_true]
    by_cases h2:2≤j
    ·rw [dT (show (j:Int) ≥ 2 by omega),cond_true,if_pos ⟨h61,rfl,h2⟩];rfl
    ·rw [dF (show ¬ (j:Int) ≥ 2 by omega),cond_false,if_neg (by omega)];rfl
  ·have:(c==(61:UInt8))=false:=by simpa using h61
   rw [this,cond_false,if_neg (by simp [h61])];rfl
 ·rw [dF h,if_neg h,cond_false,cond_false]
  by_cases h0:0<p
  ·rw [dT (show (p:Int) > 0 by omega),if_pos h0];rfl
  ·rw [dF (show ¬ (p:Int) > 0 by omega),if_neg h0,cond_false]
   have:numC c=(plc c:Int):=if_neg h
   rw [this,i64_in (n:=((v * 64:Nat):Int)+(plc c:Int)) (by omega) (by omega)]
   rfl
theorem tail128 (hC:∀ key e t,C key e t=t e) {t out:B} {i:Int} {v p:Nat} {K:Tk128} (kk j0 j1:Nat) (hv:v<16777216) (hp:p≤3) (ho:out.length≤1000000) :
  l2_128 C A129 A181 A182 kk j0 (j1+1) t (out.map nI) i (v:Int) (p:Int) 4 K=l1_128 C A129 A181 A182 kk j0 t ((out++(three v).take (3 - p)).map nI) (i64.wrap (i+4)) K:=by
 have e1:u8.wrap (i64.wrap ((v:Int).tdiv 65536))=nI (UInt8.ofNat (v / 65536)):=by
  rw [← w8_nat,tdiv_nn (by omega),i64_in (by omega) (by omega)];rfl
 have e2:u8.wrap (i64.wrap ((v:Int).tdiv 256))=nI (UInt8.ofNat (v / 256)):=by
  rw [← w8_nat,tdiv_nn (by omega),i64_in (by omega) (by omega)];rfl
 have hl:(out.map nI++[nI (UInt8.ofNat (v / 65536)),nI (UInt8.ofNat (v / 256)),nI (UInt8.ofNat v)]).length=out.length+3:=by simp
 have e3:i64.wrap (((out.length+3:Nat):Int) - (p:Int))=((out.length+3 - p:Nat):Int):=by rw [i64_in (by omega) (by omega)];omega
 rw [l2_128_eq _ _ _ _ hC,dF (by decide),cond_false,e1,e2,w8_nat,hl,dT (by omega),cond_true,e3,cutN_to (by omega),oB]
 have e4:((out.map nI++[nI (UInt8.ofNat (v / 65536)),nI (UInt8.ofNat (v / 256)),nI (UInt8.ofNat v)]).drop 0).take (out.length+3 - p)=(out++(three v).take (3 - p)).map nI:=by
  have:[nI (UInt8.ofNat (v / 65536)),nI (UInt8.ofNat (v / 256)),nI (UInt8.ofNat v)]=(three v).map nI:=rfl
  rw [List.drop_zero,this,List.take_append,List.take_of_length_le (by rw [List.length_map];omega),List.length_map,List.map_append,List.map_take]
  congr 2
  omega
 simp only
 rw [e4]
theorem group128 (hC:∀ key e t,C key e t=t e) {t out:B} {c0 c1 c2 c3:UInt8} {l:B} {K:Tk128} (kk j0 m:Nat) (h:c0 :: c1 :: c2 :: c3 :: l <:+ t) (ht:t.length≤100000) (ho:out.length≤1000000) :
  l2_128 C A129 A181 A182 kk j0 (m+5) t (out.map nI) (Pt t (c0 :: c1 :: c2 :: c3 :: l)) 0 0 0 K=(match grp l.isEmpty c0 c1 c2 c3 with
   | none=>K [] false
   | some q=>l1_128 C A129 A181 A182 kk j0 t ((out++(three q.1).take (3 - q.2)).map nI) (Pt t l) K):=by
 have h1:c1 :: c2 :: c3 :: l <:+ t:=(List.suffix_cons _ _).trans h
 have h2:c2 :: c3 :: l <:+ t:=(List.suffix_cons _ _).trans h1
 have h3:c3 :: l <:+ t:=(List.suffix_cons _ _).trans h2
 have h4:l <:+ t:=(List.suffix_cons _ _).trans h3
 have q0:=Pt_cons h;have q1:=Pt_cons h1;have q2:=Pt_cons h2;have q3:=Pt_cons h3
 have hp:=Pt_val h4
 have p0:=Pt_nn t (c0 :: c1 :: c2 :: c3 :: l)
 have a0:at? t (i64.wrap (Pt t (c0 :: c1 :: c2 :: c3 :: l)+((0:Nat):Int)))=some c0:=by rw [i64_in (by omega) (by omega),show Pt t (c0 :: c1 :: c2 :: c3 :: l)+((0:Nat):Int)=Pt t (c0 :: c1 :: c2 :: c3 :: l) by omega];exact at_Pt h
 have a1:at? t (i64.wrap (Pt t (c0 :: c1 :: c2 :: c3 :: l)+((0+1:Nat):Int)))=some c1:=by rw [i64_in (by omega) (by omega),show Pt t (c0 :: c1 :: c2 :: c3 :: l)+((0+1:Nat):Int)=Pt t (c1 :: c2 :: c3 :: l) by omega];exact at_Pt h1
 have a2:at? t (i64.wrap (Pt t (c0 :: c1 :: c2 :: c3 :: l)+((0+1+1:Nat):Int)))=some c2:=by rw [i64_in (by omega) (by omega),show Pt t (c0 :: c1 :: c2 :: c3 :: l)+((0+1+1:Nat):Int)=Pt t (c2 :: c3 :: l) by omega];exact at_Pt h2
 have a3:at? t (i64.wrap (Pt t (c0 :: c1 :: c2 :: c3 :: l)+((0+1+1+1:Nat):Int)))=some c3:=by rw [i64_in (by omega) (by omega),show Pt t (c0 :: c1 :: c2 :: c3 :: l)+((0+1+1+1:Nat):Int)=Pt t (c3 :: l) by omega];exact at_Pt h3
 have a4:i64.wrap (Pt t (c0 :: c1 :: c2 :: c3 :: l)+4)=Pt t l:=by rw [i64_in (by omega) (by omega)];omega
 have hl:(i64.wrap (Pt t (c0 :: c1 :: c2 :: c3 :: l)+4)==(t.length:Int))=l.isEmpty:=by
  rw [a4,Pt_len h4]
  cases l<;>simp
 have s0:=step128 hC (O:=out.map nI) (K:=K) (v:=0) (p:=0) kk j0 (m+4) (by omega) (by omega) (by omega) a0 hl
 have z:((0:Nat):Int)=0:=rfl
 simp only [z] at s0
 rw [s0]
 unfold grp
 cases g0:gS l.isEmpty 0 c0 (0,0) with
 | none=>rfl
 | some p =>
  have b0:=gS_bd g0
  rw [oB]
  simp only [grpK]
  rw [step128 hC (O:=out.map nI) (K:=K) kk j0 (m+3) (by omega) (by omega) (by omega) a1 hl]
  cases g1:gS l.isEmpty (0+1) c1 (p.1,p.2) with
  | none =>
   rfl
  | some p' =>
   have b1:=gS_bd g1
   rw [oB]
   simp only [grpK]
   simp only at b0 b1
   rw [step128 hC (O:=out.map nI) (K:=K) kk j0 (m+2) (by omega) (by omega) (by omega) a2 hl]
   cases g2:gS l.isEmpty (0+1+1) c2 (p'.1,p'.2) with
   | none =>
    rfl
   | some p2 =>
    have b2:=gS_bd g2
    rw [oB]
    simp only [grpK]
    simp only at b2
    rw [step128 hC (O:=out.map nI) (K:=K) kk j0 (m+1) (by omega) (by omega) (by omega) a3 hl]
    cases g3:gS l.isEmpty (0+1+1+1) c3 (p2.1,p2.2) with
    | none =>
     rfl
    | some p3 =>
     have b3:=gS_bd g3
     simp only [grpK]
     simp only at b3
     have hb0:=b0.2.2 (by omega);have hb1:=b1.2.2 (by omega)
     have:=tail128 hC (t:=t) (out:=out) (i:=Pt t (c0 :: c1 :: c2 :: c3 :: l)) (v:=p3.1) (p:=p3.2) (K:=K) kk j0 m (by omega) (by omega) ho
     rw [a4] at this
     exact this
theorem loop128 (hC:∀ key e t,C key e t=t e) {t:B} (ht:t.length≤100000) {K:Tk128} (kk:Nat) (hk:5≤kk):∀ (l out:B) (j:Nat),l <:+ t→l.length % 4=0→l.length<j→out.length+l.length≤1000000 →
  l1_128 C A129 A181 A182 kk j t (out.map nI) (Pt t l) K=(match decR l out with
   | none=>K [] false
   | some b=>bif !(enc b==t) then K [] false else K (b.map nI) true)
 | [],out,j,h,h4,hj,ho=>by
  obtain ⟨j,rfl⟩:∃ i,j=i+1:=⟨j - 1,by omega⟩
  rw [l1_128_eq _ _ _ _ hC,Pt_end,dF (by omega),cond_false,A182_ok (by omega)]
  have:decR [] out=some out:=by rw [decR];simp
  rw [this]
 | [_],out,j,h,h4,hj,ho=>by simp at h4
 | [_,_],out,j,h,h4,hj,ho=>by simp at h4
 | [_,_,_],out,j,h,h4,hj,ho=>by simp at h4
 | c0 :: c1 :: c2 :: c3 :: l,out,j,h,h4,hj,ho=>by
  obtain ⟨j,rfl⟩:∃ i,j=i+1:=⟨j - 1,by omega⟩
  obtain ⟨m,hm⟩:∃ m,kk=m+5:=⟨kk - 5,by omega⟩
  have hl:l <:+ t:=((List.suffix_cons c3 _).trans ((List.suffix_cons c2 _).trans ((List.suffix_cons c1 _).trans (List.suffix_cons c0 _)))).trans h
  have g:=group128 hC (t:=t) (out:=out) (K:=K) kk j m h ht (by omega)
  rw [← hm] at g
  rw [l1_128_eq _ _ _ _ hC,dT (Pt_lt h),cond_true,g,decR]
  simp only [List.length_cons] at hj ho h4
  cases grp l.isEmpty c0 c1 c2 c3 with
  | none=>rfl
  | some q =>
   have h3:((three q.1).take (3 - q.2)).length≤3:=by rw [List.length_take];exact Nat.le_trans (Nat.min_le_right _ _) (by simp [three])
   exact loop128 hC ht (K:=K) kk hk l _ j hl (by omega) (by omega) (by rw [List.length_append];omega)
def A128:Ty128:=fun s K=>if s.length≤10000 then (match dec64 (clean s) with | some b=>K (b.map nI) true | none=>K [] false) else none
theorem eq128 (hC:∀ key e t,C key e t=t e) (s:B) (K:Tk128) (r:Out) (h:A128 s K=some r):run128 C A129 A181 A182 big s K=some r:=by
 unfold A128 at h
 split at h
 ·rename_i hs
  have hc:=clean_len s
  have e129:∀ k,A129 s k=k (clean s):=fun k=>if_pos (by omega)
  rw [run128_eq,← h,e129,← dec_same]
  unfold dec64R
  rw [tmod_nn (by omega)]
  by_cases h4:(clean s).length % 4=0
  ·have:((((clean s).length:Int) % 4) != 0)=false:=by
    have:(((clean s).length:Int) % 4)=0:=by omega
    rw [this];rfl
   have lp:=loop128 hC (t:=clean s) (by omega) (K:=K) big (by unfold big;omega) (clean s) [] big (List.suffix_refl _) h4 (by unfold big;omega) (by simp;omega)
   rw [Pt_zero] at lp
   rw [this,cond_false,if_pos h4]
   refine Eq.trans lp ?_
   cases decR (clean s) [] with
   | none=>rfl
   | some b =>
    simp only
    by_cases e:enc b=clean s
    ·rw [if_pos e,e];simp
    ·rw [if_neg e]
     have:(enc b==clean s)=false:=by simpa using e
     rw [this];rfl
  ·have:((((clean s).length:Int) % 4) != 0)=true:=by
    have:¬ (((clean s).length:Int) % 4)=0:=by omega
    simpa using this
   rw [this,cond_true,if_neg h4]
 ·cases h
def A77:Ty77:=fun s K=>if s.length≤10000 then K (binT s).1 (binT s).2 else none
theorem eq77 (s:B) (K:Tk77) (r:Out) (h:A77 s K=some r):run77 C A128 A129 big s K=some r:=by
 unfold A77 at h
 split at h
 ·rename_i hs
  have e128:∀ k,A128 s k=(match dec64 (clean s) with | some b=>k (b.map nI) true | none=>k [] false):=fun k=>if_pos hs
  have e129:∀ k,A129 s k=k (clean s):=fun k=>if_pos (by omega)
  rw [run77_eq,← h,e128]
  unfold binT
  cases dec64 (clean s) with
  | none=>rfl
  | some b=>simp only [Bool.not_true,cond_false,e129]
 ·cases h
end Go.Proofs.YtffmgholjdfcnaaGreatDoor
