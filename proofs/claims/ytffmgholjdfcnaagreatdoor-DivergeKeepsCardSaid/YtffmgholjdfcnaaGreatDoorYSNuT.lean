import Derived.Test.YtffmgholjdfcnaaGreatDoorYSNuR
import Derived.Test.YtffmgholjdfcnaaGreatDoorKSA
import Derived.Test.YtffmgholjdfcnaaGreatDoorKSS
import Derived.Shelf.Strings.SlTrimAscii
import Derived.Lib.LaidTab
import Derived.Lib.SplitLaws
import Derived.Lib.ReplaceLaws
import Derived.Lib.AppendIntMem
import Derived.Shelf.Unicode.DecodeSlow
set_option linter.unusedSimpArgs false
set_option linter.unusedVariables false
namespace Go.Proofs.YtffmgholjdfcnaaGreatDoor
open Go AM St Nu
def G (w:World):Prop:=Lib.TabIs Tryz.prog w "internal/strconv.uint64pow10" .u64 Lib.pow10Tab∧(∃ m:Int,w.cell? ⟨2,0,none⟩=some (.int .i64 m))∧Lib.Utf8Tabs 0 1 w
noncomputable def ng:Nat:=(Tryz.prog.globalNamed "internal/strconv.uint64pow10").getD 0+1
theorem gP:Tryz.prog.globalNamed "internal/strconv.uint64pow10" = some (ng - 1):=by kernel_rfl
theorem ng1:ng=ng - 1+1:=by kernel_rfl
theorem ng3:2<ng:=Nat.le_of_ble_eq_true (by kernel_rfl)
theorem stays:Stays Tryz.prog G ng where
 stays:=by
  intro w w' h hb _ _ _ _
  obtain ⟨h1,h2,h3⟩:=h
  have hc:∀ (b:Nat) (c:Nat),b<ng→w'.cell? ⟨b,c,none⟩=w.cell? ⟨b,c,none⟩:=by
   intro b c hbn
   unfold World.cell?
   simp only
   rw [hb b hbn]
  refine ⟨?_,?_,?_⟩
  ·unfold Lib.TabIs World.var? at h1 ⊢
   rw [gP] at h1 ⊢
   simp only [oB] at h1 ⊢
   rw [hb (ng - 1) (by have:=ng1;omega)]
   exact h1
  ·rw [hc 2 0 ng3]
   exact h2
  ·obtain ⟨h4,h5⟩:=h3
   have n0:0<ng:=by have:=ng3;omega
   have n1:1<ng:=by have:=ng3;omega
   refine ⟨fun c hlt=>?_,fun i hlt=>?_⟩
   ·rw [hc 0 c n0];exact h4 c hlt
   ·rw [hc 1 _ n1,hc 1 _ n1];exact h5 i hlt
 mixed:=by kernel_rfl
theorem G_ng {w:World} (h:G w):ng≤w.heap.size:=by
 have h:=h.1
 unfold Lib.TabIs World.var? at h
 rw [gP] at h
 simp only [oB] at h
 rcases Nat.lt_or_ge (ng - 1) w.heap.size with h' | h'
 ·have:=ng1;omega
 ·rw [Array.getElem?_eq_none h'] at h;cases h
theorem index_find (x:UInt8):∀ l:B,Lib.index l [x]=findX x l
 | []=>rfl
 | c :: l=>by
  have ih:=index_find x l
  unfold Lib.index
  have hp:([x]:B).isPrefixOf (c :: l)=(x==c):=by simp [List.isPrefixOf]
  rw [hp,beq_sym x c,ih]
  unfold findX
  cases hc:c==x with
  | true=>rw [eq_of_beq hc,dw_hit,tw_hit];rfl
  | false =>
   rw [dw_miss hc,tw_miss hc]
   cases hd:dw x l with
   | nil=>rfl
   | cons a t =>
    have:((((tw x l).length:Nat):Int) == -1)=false:=by simp<;>omega
    simp only [this,Bool.false_eq_true,if_false,List.length_cons]
    omega
theorem count_tw (x:UInt8) (l:B):(tw x l).count x=0:=by
 rw [List.count_eq_zero]
 intro h
 have:=List.all_eq_true.1 (tw_no x l) x h
 simp at this
theorem count_dw (x:UInt8) (l:B):l.count x=(match dw x l with | []=>0 | _ :: t=>t.count x+1):=by
 have e:=tw_dw x l
 have h:l.count x=(tw x l).count x+(dw x l).count x:=by conv=>lhs;rw [← e];rw [List.count_append]
 rw [h,count_tw,Nat.zero_add]
 rcases dw_cases x l with e | ⟨t,e⟩
 ·rw [e];rfl
 ·rw [e,List.count_cons_self]
theorem take_tw (x:UInt8) (l:B):l.take (tw x l).length=tw x l:=by
 have:=List.take_left (l₁:=tw x l) (l₂:=dw x l)
 rw [tw_dw] at this
 exact this
theorem drop_tw {x:UInt8} {l t:B} {y:UInt8} (h:dw x l=y :: t):l.drop ((tw x l).length+1)=t:=by
 have e:=tw_dw x l
 rw [h] at e
 have h2:(tw x l++y :: t).drop ((tw x l).length+1)=t:=by rw [List.drop_append];simp
 rw [e] at h2
 exact h2
theorem split_parts:∀ (k:Nat) (l:B),l.count 58=k→Lib.splitK [58] 0 k l=parts l
 | k,l,h=>by
  rw [count_dw] at h
  have hi:=index_find 58 l
  unfold findX at hi
  have hp:=parts_eq l
  rcases dw_cases 58 l with e | ⟨t,e⟩
  ·rw [e] at h hi hp
   have hl:tw 58 l=l:=by have:=tw_dw 58 l;rwa [e,List.append_nil] at this
   rw [← h,hp,hl]
   rfl
  ·rw [e] at h hi hp
   simp only at h hi hp
   cases k with
   | zero=>omega
   | succ k =>
    unfold Lib.splitK
    have hne:(Lib.index l [58] == -1)=false:=by rw [hi];simp<;>omega
    have hn:(Lib.index l [58]).toNat=(tw 58 l).length:=by rw [hi];omega
    rw [hne,hn,hp]
    simp only [Bool.false_eq_true,if_false,Nat.add_zero,List.length_cons,List.length_nil,Nat.zero_add]
    rw [take_tw,drop_tw e,split_parts k t (by omega)]
theorem replace_noU:∀ (k:Nat) (l:B),l.count 95=k→Lib.replaceK [95] [] k l=noU l
 | k,l,h=>by
  rw [count_dw] at h
  have hi:=index_find 95 l
  unfold findX at hi
  have htw:noU (tw 95 l)=tw 95 l:=by
   unfold noU
   exact List.filter_eq_self.2 fun c hc=>List.all_eq_true.1 (tw_no 95 l) c hc
  have e0:=tw_dw 95 l
  rcases dw_cases 95 l with e | ⟨t,e⟩
  ·rw [e] at h hi e0
   rw [← h]
   have hl:tw 95 l=l:=by rwa [List.append_nil] at e0
   rw [hl] at htw
   exact htw.symm
  ·rw [e] at h hi e0
   simp only at h hi
   cases k with
   | zero=>omega
   | succ k =>
    rw [Lib.replaceK_hit [95] [] k l (tw 95 l).length hi,take_tw]
    have hd:l.drop ((tw 95 l).length+([95]:B).length)=t:=drop_tw e
    rw [hd,replace_noU k t (by omega)]
    conv=>rhs;rw [← e0]
    rw [noU_app,noU_hit,htw,List.append_nil]
theorem fnIs_libR {g:Nat} {fn:Func} {c:Code} (hf:Tryz.prog.funcs[g]?=some fn) (hname:(fn.name == "runtime.NumGoroutine")=false) (hb:fn.body=some c) {A:Fn1}
  (h:∀ rc cs K r,A rc cs K=some r→rc=none∧∃ ss:List S,cs=ss.map C.s∧∀ w,G w→Calls Tryz.prog g (ss.map S.enc).toArray w fun e w'=>∃ v,e=.returned v∧∃ p,K p=some r∧RetRel Tryz.prog w w' none none p v):FnP G ng g A:=by
 intro rc cs K r hA w rv pb vs hG hng hrc has hp
 obtain ⟨rfl,ss,rfl,hC⟩:=h rc cs K r hA
 obtain ⟨rfl,rfl⟩:=hrc
 have:=relL_plain has
 subst this
 refine .inl ⟨callFunc_enter hf hname hb,?_⟩
 have hc:Calls Tryz.prog g (([]:List Value)++ss.map S.enc).toArray w fun e w'=>∃ v,e=.returned v∧∃ p,K p=some r∧RetRel Tryz.prog w w' none none p v:=by simpa using hC w hG
 refine Calls.mono hc fun e w' he=>?_
 obtain ⟨v,rfl,hR⟩:=he
 exact hR
theorem ext_alloc (w:World) (o:Obj):Ext w (w.alloc o):=⟨rfl,rfl,rfl,by show w.heap.size≤(w.heap.push o).size;rw [Array.size_push];omega,fun b hb _=>by show (w.heap.push o)[b]?=_;rw [Array.getElem?_push_lt hb,Array.getElem?_eq_getElem hb]⟩
theorem is155':FnP G ng 155 (adp155 A155):=fnIs_lib (c:=Tryz.f155.body.getD .skip) Tryz.func155 (by kernel_rfl) (by kernel_rfl) fun rc cs K r h=>by
 unfold adp155 yq13 at h
 split at h
 ·exact ⟨rfl,[.str _,.int .u8 _],rfl,.int .i64 _,h,fun w _=>(Tryz.strings_IndexByte _ _ w).mono fun e w' ⟨h1,h2⟩=>⟨h1,h2 ▸ Ext.refl _⟩⟩
 ·cases h
theorem is94':FnP G ng 94 (adp94 A94):=fnIs_lib (c:=Tryz.f94.body.getD .skip) Tryz.func94 (by kernel_rfl) (by kernel_rfl) fun rc cs K r h=>by
 unfold adp94 yq31 at h
 split at h
 ·exact ⟨rfl,[.str _,.str _],rfl,.bool _,h,fun w _=>(Tryz.strings_HasPrefix _ _ w).mono fun e w' ⟨h1,h2⟩=>⟨h1,h2 ▸ Ext.refl _⟩⟩
 ·cases h
theorem is232':FnP G ng 232 (adp232 A232):=fnIs_lib (c:=Tryz.f232.body.getD .skip) Tryz.func232 (by kernel_rfl) (by kernel_rfl) fun rc cs K r h=>by
 unfold adp232 yq39 at h
 split at h
 ·exact ⟨rfl,[.str _,.str _],rfl,.int .i64 _,h,fun w _=>(Tryz.strings_Compare _ _ w).mono fun e w' ⟨h1,h2⟩=>⟨h1,h2 ▸ Ext.refl _⟩⟩
 ·cases h
theorem is151':FnP G ng 151 (adp151 A151):=fnIs_lib (c:=Tryz.f151.body.getD .skip) Tryz.func151 (by kernel_rfl) (by kernel_rfl) fun rc cs K r h=>by
 unfold adp151 yq1 A151 at h
 split at h
 ·split at h
  ·split at h
   ·rename_i hc
    exact ⟨rfl,[.str _,.str _],rfl,.str _,h,fun w _=>(Tryz.strings_TrimRight_one ⟨⟨_⟩⟩ _ hc.1 w (by have:=hc.2;rw [AM.size_mk];omega)).mono fun e w' ⟨h1,h2⟩=>⟨h1,h2 ▸ Ext.refl _⟩⟩
   ·cases h
  ·cases h
 ·cases h
theorem ascii_at {l:B} (h:(l.all fun x=>decide (x.toNat<128))=true):∀ (j:Nat) b,(⟨⟨l⟩⟩:ByteArray).data.toList[j]?=some b→b.toNat<128:=by
 intro j b hb
 have:=List.all_eq_true.1 h b (List.mem_of_getElem? hb)
 simpa using this
theorem i116:(Tryz.prog.info? (Tryz.lays161_ren.t 116)).map (fun i=>(i.zero,i.size))=some (some (.agg (Array.replicate 256 (.bool false))),256):=by kernel_rfl
theorem i116b:(Tryz.prog.info? (Tryz.lays160_ren.t 116)).map (fun i=>(i.zero,i.size))=some (some (.agg (Array.replicate 256 (.bool false))),256):=by kernel_rfl
theorem is148':FnP G ng 148 (adp148 A148):=fnIs_lib (c:=Tryz.f148.body.getD .skip) Tryz.func148 (by kernel_rfl) (by kernel_rfl) fun rc cs K r h=>by
 unfold adp148 yq1 A148 at h
 split at h
 ·split at h
  ·split at h
   ·rename_i hc
    exact ⟨rfl,[.str _,.str _],rfl,.str _,h,fun w _=>(Tryz.strings_TrimLeft_one ⟨⟨_⟩⟩ _ hc.1 w).mono fun e w' ⟨h1,h2⟩=>⟨h1,h2 ▸ Ext.refl _⟩⟩
   ·cases h
  ·split at h
   ·rename_i hc
    exact ⟨rfl,[.str _,.str _],rfl,.str _,h,fun w _=>(Any.strings_TrimLeft_laid Tryz.lays161 i116 ⟨⟨_⟩⟩ ⟨⟨_⟩⟩ w (by rw [AM.size_mk];omega) (ascii_at hc.2.1)).mono fun e w' ⟨h1,h2⟩=>⟨h1,ext_below h2⟩⟩
   ·cases h
 ·cases h
theorem is163':FnP G ng 163 (adp163 A163):=fnIs_lib (c:=Tryz.f163.body.getD .skip) Tryz.func163 (by kernel_rfl) (by kernel_rfl) fun rc cs K r h=>by
 unfold adp163 yq1 A163 at h
 split at h
 ·split at h
  ·split at h
   ·rename_i hc
    exact ⟨rfl,[.str _,.str _],rfl,.str _,h,fun w _=>(Tryz.strings_Trim_one ⟨⟨_⟩⟩ _ hc.1 w (by have:=hc.2;rw [AM.size_mk];omega)).mono fun e w' ⟨h1,h2⟩=>⟨h1,by rcases h2 with rfl | rfl<;>exact ⟨rfl,rfl,rfl,Nat.le_refl _,fun _ _ _=>rfl⟩⟩⟩
   ·cases h
  ·split at h
   ·rename_i hc
    exact ⟨rfl,[.str _,.str _],rfl,.str _,h,fun w _=>(Any.strings_Trim_laid Tryz.lays160 i116b ⟨⟨_⟩⟩ ⟨⟨_⟩⟩ w (by have:=hc.2.2;rw [AM.size_mk];omega) (by rw [AM.size_mk];omega) (ascii_at hc.2.1)).mono fun e w' ⟨h1,h2⟩=>⟨h1,ext_below h2⟩⟩
   ·cases h
 ·cases h
theorem is171':FnP G ng 171 (adp171 A171):=fnIs_lib (c:=Tryz.f171.body.getD .skip) Tryz.func171 (by kernel_rfl) (by kernel_rfl) fun rc cs K r h=>by
 unfold adp171 yq10 A171 at h
 split at h
 ·split at h
  ·rename_i hc
   exact ⟨rfl,[.int .i64 _],rfl,.str _,h,fun w hG=>(Tryz.strconv_Itoa _ hc.1 hc.2 w hG.1).mono fun e w' ⟨h1,k,os,h2⟩=>⟨h1,h2 ▸ ext_grow⟩⟩
  ·cases h
 ·cases h
theorem is172':FnP G ng 172 (adp172 A172):=fnIs_lib (c:=Tryz.f172.body.getD .skip) Tryz.func172 (by kernel_rfl) (by kernel_rfl) fun rc cs K r h=>by
 unfold adp172 yq11 A172 at h
 split at h
 ·split at h
  ·rename_i s n hc
   obtain ⟨n0,n1,n2⟩:=hc
   have hn:((n.toNat:Nat):Int)=n:=by omega
   refine ⟨rfl,[.str s,.int .i64 n],rfl,.str _,h,fun w _=>?_⟩
   have hl:s.length * n.toNat≤140737488355328:=Nat.le_trans (Nat.mul_le_mul n2 (by omega:n.toNat≤1000000)) (by decide)
   have:=Tryz.strings_Repeat ⟨⟨s⟩⟩ n.toNat w (by omega) (by rw [AM.size_mk];exact hl)
   rw [hn] at this
   exact this.mono fun e w' ⟨h1,h2⟩=>⟨h1,ext_below h2⟩
  ·cases h
 ·cases h
theorem is68':FnP G ng 68 (adp68 A68):=fnIs_lib (c:=Tryz.f68.body.getD .skip) Tryz.func68 (by kernel_rfl) (by kernel_rfl) fun rc cs K r h=>by
 unfold adp68 yq14 A68 at h
 split at h
 ·split at h
  ·rename_i hc
   exact ⟨rfl,[.str _],rfl,.str _,h,fun w _=>(Tryz.stringslite_Clone ⟨⟨_⟩⟩ w (by rw [AM.size_mk];exact hc)).mono fun e w' ⟨h1,h2⟩=>⟨h1,ext_below h2⟩⟩
  ·cases h
 ·cases h
theorem is102':FnP G ng 102 (adp102 A102):=fnIs_lib (c:=Tryz.f102.body.getD .skip) Tryz.func102 (by kernel_rfl) (by kernel_rfl) fun rc cs K r h=>by
 unfold adp102 yq46 A102 at h
 split at h
 ·split at h
  ·rename_i s o n hc
   obtain ⟨rfl,rfl,hs⟩:=hc
   refine ⟨rfl,[.str s,.str [95],.str []],rfl,.str (noU s),h,fun w hG=>?_⟩
   obtain ⟨m,hm⟩:=hG.2.1
   have e:Lib.replaceAll s [95] []=noU s:=by
    unfold Lib.replaceAll Lib.replace
    have h1:(([95]:B)==[])=false:=rfl
    rw [h1,if_neg (by decide)]
    unfold Lib.replaceNum
    rw [if_pos (.inl (by decide)),Lib.count_one]
    exact replace_noU _ s rfl
   have:=Tryz.strings_ReplaceAll ⟨⟨s⟩⟩ ⟨⟨[95]⟩⟩ ⟨⟨[]⟩⟩ m w (by rw [AM.size_mk];omega) hm (by decide) (by
    have:(⟨⟨([]:B)⟩⟩:ByteArray).size=0:=rfl
    rw [this,AM.size_mk];omega)
   have key:(Value.string ⟨(Lib.replaceAll (⟨⟨s⟩⟩:ByteArray).data.toList (⟨⟨[95]⟩⟩:ByteArray).data.toList (⟨⟨([]:B)⟩⟩:ByteArray).data.toList).toArray⟩:Value)=(S.str (noU s)).enc:=by
    show Value.string ⟨(Lib.replaceAll s [95] []).toArray⟩=Value.string ⟨⟨noU s⟩⟩
    rw [e]
   exact this.mono fun e' w' ⟨h1,h2⟩=>⟨by rw [h1,key],ext_below h2⟩
  ·cases h
 ·cases h
theorem is230':FnP G ng 230 (adp230 A230):=fnIs_libR (c:=Tryz.f230.body.getD .skip) Tryz.func230 (by kernel_rfl) (by kernel_rfl) fun rc cs K r h=>by
 unfold adp230 yq40 A230 at h
 split at h
 ·split at h
  ·rename_i s p
   refine ⟨rfl,[.str s,.str [45]],rfl,fun w hG=>(Tryz.strings_CutPrefix ⟨⟨s⟩⟩ ⟨⟨[45]⟩⟩ w).mono fun e w' ⟨h1,h2⟩=>?_⟩
   subst h1 h2
   refine ⟨_,rfl,_,h,Ext.refl _,?_,?_,?_,trivial⟩
   ·intro base pb e tm
    have e1:Lib.trimPrefix s [45]=(bare s).2∧Lib.hasPrefix s [45]=(bare s).1:=by
     cases s with
     | nil=>exact ⟨rfl,rfl⟩
     | cons c l =>
      have hp:Lib.hasPrefix (c :: l) [45]=(c==45):=by rw [pre_cons,pre_end,Bool.and_true,beq_sym]
      unfold Lib.trimPrefix
      rw [hp]
      cases hc:c==45 with
      | true=>rw [eq_of_beq hc];exact ⟨rfl,rfl⟩
      | false=>rw [bare_no hc];exact ⟨rfl,rfl⟩
    refine ⟨[.string ⟨(Lib.trimPrefix s [45]).toArray⟩,.bool (Lib.hasPrefix s [45])],rfl,?_⟩
    rw [e1.1,e1.2]
    exact .cons rfl (.cons rfl .nil)
   ·intro b hb
    have:blks (ofRes [.s (.str (bare s).2),.s (.bool (bare s).1)]) (Value.tuple #[.string ⟨(Lib.trimPrefix s [45]).toArray⟩,.bool (Lib.hasPrefix s [45])])=[]:=rfl
    have hb':=hb
    rw [show blks (ofRes [.s (.str (bare s).2),.s (.bool (bare s).1)]) _=[] from this] at hb'
    cases hb'
   ·exact List.nodup_nil
  ·cases h
 ·cases h
theorem split_enc (s:B):(Lib.splitB ⟨⟨[58]⟩⟩ 0 (Lib.countB ⟨⟨s⟩⟩ ⟨⟨[58]⟩⟩) ⟨⟨s⟩⟩).map Value.string=(Xs.strs (parts s)).enc∧Lib.countB ⟨⟨s⟩⟩ ⟨⟨[58]⟩⟩+1=(parts s).length:=by
 have hd:=Lib.splitB_data ⟨⟨[58]⟩⟩ 0 (Lib.countB ⟨⟨s⟩⟩ ⟨⟨[58]⟩⟩) ⟨⟨s⟩⟩
 have hc:Lib.countB ⟨⟨s⟩⟩ ⟨⟨[58]⟩⟩=s.count 58:=Lib.count_one 58 s
 have hp:Lib.splitK [58] 0 (s.count 58) s=parts s:=split_parts _ s rfl
 have hd:(Lib.splitB ⟨⟨[58]⟩⟩ 0 (Lib.countB ⟨⟨s⟩⟩ ⟨⟨[58]⟩⟩) ⟨⟨s⟩⟩).map (·.data.toList)=parts s:=by rw [hd,hc];exact hp
 have hlen:=Lib.splitB_all ⟨⟨[58]⟩⟩ (by decide) 0 _ ⟨⟨s⟩⟩ rfl
 constructor
 ·rw [← hd]
  unfold Xs.enc Xs.toS
  rw [List.map_map,List.map_map]
  apply List.map_congr_left
  intro x _
  rfl
 ·rw [← hd,List.length_map,hlen]
theorem is103':FnP G ng 103 (adp103 A103):=fnIs_libR (c:=Tryz.f103.body.getD .skip) Tryz.func103 (by kernel_rfl) (by kernel_rfl) fun rc cs K r h=>by
 unfold adp103 yq47 A103 at h
 split at h
 ·split at h
  ·rename_i s p hc
   obtain ⟨rfl,hs⟩:=hc
   refine ⟨rfl,[.str s,.str [58]],rfl,fun w hG=>?_⟩
   obtain ⟨m,hm⟩:=hG.2.1
   obtain ⟨e1,e2⟩:=split_enc s
   refine (Tryz.strings_Split ⟨⟨s⟩⟩ ⟨⟨[58]⟩⟩ m w (by rw [AM.size_mk];omega) hm (by decide)).mono fun e w' ⟨h1,h2⟩=>?_
   subst h1 h2
   rw [e1,e2]
   refine ⟨_,rfl,_,h,ext_alloc _ _,fun base pb e tm=>(show OwnRel _ (Xs.strs (parts s)) _ from own_new (x:=.strs (parts s))),?_,?_,trivial⟩
   ·intro b hb
    have hb:b ∈ [w.heap.size]:=hb
    have:b=w.heap.size:=by simpa using hb
    subst this
    exact ⟨Nat.le_refl _,by show w.heap.size<(w.heap.push _).size;rw [Array.size_push];omega⟩
   ·show [w.heap.size].Nodup
    simp
  ·cases h
 ·cases h
def A241:Ty241:=fun i K=>if 0≤i∧i<100 then K (Lib.decDigits i.toNat) else none
theorem is241':FnP G ng 241 (adp241 A241):=fnIs_lib (c:=Tryz.f241.body.getD .skip) Tryz.func241 (by kernel_rfl) (by kernel_rfl) fun rc cs K r h=>by
 unfold adp241 yq10 A241 at h
 split at h
 ·split at h
  ·rename_i i hc
   have hi:((i.toNat:Nat):Int)=i:=by omega
   refine ⟨rfl,[.int .i64 i],rfl,.str _,h,fun w _=>?_⟩
   have:=Any.internal_strconv_small { Tryz.laysM171 with } i.toNat (by omega) w
   rw [hi] at this
   exact this.mono fun e w' ⟨h1,h2⟩=>⟨h1,h2 ▸ Ext.refl _⟩
  ·cases h
 ·cases h
def A242:Ty242:=fun u K=>if 1≤u∧u<18446744073709551616 then K (Lib.nDigits u.toNat) else none
theorem is242':FnP G ng 242 (adp242 A242):=fnIs_lib (c:=Tryz.f242.body.getD .skip) Tryz.func242 (by kernel_rfl) (by kernel_rfl) fun rc cs K r h=>by
 unfold adp242 yq41 A242 at h
 split at h
 ·split at h
  ·rename_i u hc
   have hu:((u.toNat:Nat):Int)=u:=by omega
   refine ⟨rfl,[.int .u64 u],rfl,.int .i64 _,h,fun w hG=>?_⟩
   have:=Any.internal_strconv_numDigits { Tryz.laysM171 with } u.toNat (by omega) (by omega) w hG.1
   rw [hu] at this
   exact this.mono fun e w' ⟨h1,h2⟩=>⟨h1,h2 ▸ Ext.refl _⟩
  ·cases h
 ·cases h
def A244:Ty244:=fun _ _ _ _ _ _=>none
theorem is244':FnP G ng 244 (adp244 A244):=by
 intro rc cs K r h
 unfold adp244 yq42 wq42 A244 at h
 split at h<;>cases h
def A243:TyO243:=fun x u K=>if 1≤u∧u<18446744073709551616∧x=List.replicate (Lib.nDigits u.toNat) 0 then K ((Lib.decDigits u.toNat).map nI) else none
end Go.Proofs.YtffmgholjdfcnaaGreatDoor
