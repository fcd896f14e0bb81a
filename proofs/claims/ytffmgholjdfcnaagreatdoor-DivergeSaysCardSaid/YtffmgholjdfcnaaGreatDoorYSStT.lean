import Derived.Test.YtffmgholjdfcnaaGreatDoorYSStO
set_option linter.unusedSimpArgs false
set_option linter.unusedVariables false
namespace Go.Proofs.YtffmgholjdfcnaaGreatDoor
open Go AM St
theorem dc_nat {n:Int} (h0:0≤n) (h1:n≤9):(dc n).toNat=48+n.toNat:=by
 unfold dc
 rw [UInt8.toNat_ofNat']
 omega
theorem dg_dc {n:Int} (h0:0≤n) (h1:n≤9):dg (dc n)=true:=by
 unfold dg
 rw [dc_nat h0 h1]
 simp
 omega
theorem dv_dc {n:Int} (h0:0≤n) (h1:n≤9):dv (dc n)=n:=by
 unfold dv
 rw [dc_nat h0 h1]
 omega
theorem digs_dc {n:Int} (h0:0≤n) (h1:n≤9) (m:Nat) (k:Int) (l:B):digs (m+1) k (dc n :: l)=((digs m (10 * k+n) l).1,(digs m (10 * k+n) l).2.1,(digs m (10 * k+n) l).2.2+1):=by
 rw [digs_yes (dg_dc h0 h1),dv_dc h0 h1]
theorem digs_w2 {n:Int} (h0:0≤n) (h1:n≤99) (l:B):digs 2 0 (w2 n++l)=(n,l,2):=by
 unfold w2
 simp only [List.cons_append,List.nil_append]
 rw [digs_dc (by omega) (by omega),digs_dc (by omega) (by omega)]
 simp only [digs]
 congr 1
 omega
theorem digs_w4 {n:Int} (h0:0≤n) (h1:n≤9999) (l:B):digs 4 0 (w4 n++l)=(n,l,4):=by
 unfold w4
 simp only [List.cons_append,List.nil_append]
 rw [digs_dc (by omega) (by omega),digs_dc (by omega) (by omega),digs_dc (by omega) (by omega),digs_dc (by omega) (by omega)]
 simp only [digs]
 congr 1
 omega
theorem num_w2 {n:Int} (h0:0≤n) (h1:n≤99) {a:Nat} (ha:a≤2) (l:B):num a 2 (w2 n++l)=some (n,l):=by
 unfold num
 rw [digs_w2 h0 h1]
 have:decide (2<a)=false:=dF (by omega)
 simp only [this]
theorem num_w4 {n:Int} (h0:0≤n) (h1:n≤9999) (l:B):num 4 4 (w4 n++l)=some (n,l):=by
 unfold num
 rw [digs_w4 h0 h1]
 rfl
theorem sg_one (c:UInt8) (l:B):sg [c] (c :: l)=some (c,l):=by simp [sg]
def dayB (y m d:Int) (l:B):B:=w4 y++(45 :: (w2 m++(45 :: (w2 d++l))))
theorem parse_day {y m d:Int} (y0:0≤y) (y1:y≤9999) (m0:0≤m) (m1:m≤99) (d0:0≤d) (d1:d≤99) (l:B):parse (dayB y m d l)=match l with
  | []=>some (⟨y,m,d,0,0,0,[],0⟩,true)
  | _ :: _=>match gap l with
   | none=>none
   | some s6=>match clock s6 with
    | none=>none
    | some (h,mi,sec,fr,z)=>some (⟨y,m,d,h,mi,sec,fr,z⟩,false):=by
 unfold parse dayB
 rw [num_w4 y0 y1]
 simp only [sg_one]
 rw [num_w2 m0 m1 (by omega)]
 simp only [sg_one]
 rw [num_w2 d0 d1 (by omega)]
 cases l with
 | nil =>
  have e:decide ((w2 m++45 :: (w2 d++[])).length=5)=true:=by simp [w2_len]
  simp only [e]
 | cons a b=>rfl
def clockB (h mi sec:Int) (l:B):B:=w2 h++(58 :: (w2 mi++(58 :: (w2 sec++l))))
theorem clock_text {h mi sec:Int} (h0:0≤h) (h1:h≤99) (m0:0≤mi) (m1:mi≤99) (s0:0≤sec) (s1:sec≤99) (l:B):clock (clockB h mi sec l)=match zoneE (fracs l).2 with
  | none=>none
  | some z=>some (h,mi,sec,(fracs l).1,z):=by
 unfold clock clockB
 rw [num_w2 h0 h1 (by omega)]
 simp only [sg_one]
 rw [num_w2 m0 m1 (by omega)]
 simp only [sg_one]
 rw [num_w2 s0 s1 (by omega)]
 rfl
def Fr (f:B):Prop:=(∀ c,c ∈ f→dg c=true)∧Lib.trimRightB f 48=f
theorem trim_idem (l:B) (c:UInt8):Lib.trimRightB (Lib.trimRightB l c) c=Lib.trimRightB l c:=by
 unfold Lib.trimRightB
 rw [List.reverse_reverse]
 congr 1
 generalize l.reverse=r
 induction r with
 | nil=>rfl
 | cons a r ih =>
  rw [List.dropWhile_cons]
  cases h:a==c with
  | true=>simpa [h] using ih
  | false=>simp [h,List.dropWhile_cons]
theorem trim_mem {l:B} {c x:UInt8} (h:x ∈ Lib.trimRightB l c):x ∈ l:=by
 unfold Lib.trimRightB at h
 have:=(List.dropWhile_suffix (fun x=>x==c) (l:=l.reverse)).subset (List.mem_reverse.1 h)
 exact List.mem_reverse.1 this
abbrev DD:B:=[48,49,50,51,52,53,54,55,56,57]
theorem behind_pre (of:B):∀ l:B,l=l.take (l.length - (behind of l).length)++behind of l∧∀ c,c ∈ l.take (l.length - (behind of l).length)→of.contains c=true
 | []=>by simp [behind]
 | c :: l=>by
  have hl:=behind_len of l
  obtain ⟨h1,h2⟩:=behind_pre of l
  cases hc:of.contains c with
  | true =>
   have e:behind of (c :: l)=behind of l:=by simp only [behind,hc]
   rw [e,List.length_cons,Nat.succ_sub hl,List.take_succ_cons]
   refine ⟨by rw [List.cons_append,← h1],fun x hx=>?_⟩
   rcases List.mem_cons.1 hx with rfl | hx
   ·exact hc
   ·exact h2 x hx
  | false =>
   have e:behind of (c :: l)=c :: l:=by simp only [behind,hc]
   rw [e,Nat.sub_self,List.take_zero]
   exact ⟨rfl,fun x hx=>by cases hx⟩
theorem behind_app {of f:B} (hf:∀ c,c ∈ f→of.contains c=true) (l:B):behind of (f++l)=behind of l:=by
 induction f with
 | nil=>rfl
 | cons c f ih =>
  have hc:=hf c (by simp)
  simp only [List.cons_append,behind,hc]
  exact ih fun x hx=>hf x (by simp [hx])
theorem fracs_fr (s:B):Fr (fracs s).1:=by
 unfold fracs
 cases sg [46] s with
 | none=>exact ⟨fun c h=>(by cases h),rfl⟩
 | some q =>
  refine ⟨fun c h=>?_,trim_idem _ _⟩
  have:=(behind_pre DD q.2).2 c (trim_mem h)
  rwa [digits_contains] at this
def frB (f l:B):B:=match f with
 | []=>l
 | c :: f=>46 :: (c :: f++l)
theorem fracs_back {f:B} (hf:Fr f):fracs (frB f [90])=(f,[90]):=by
 cases f with
 | nil=>rfl
 | cons c f =>
  unfold frB fracs
  simp only [sg_one]
  have hd:∀ x,x ∈ c :: f→DD.contains x=true:=fun x hx=>by rw [digits_contains];exact hf.1 x hx
  have e:=behind_app hd [90]
  have e2:behind DD [90]=[90]:=by decide
  rw [e2] at e
  rw [e]
  have e3:(c :: f++[90]).length - ([90]:B).length=(c :: f).length:=by simp
  rw [e3,List.take_left,hf.2]
theorem zoneE_Z:zoneE [90]=some 0:=by decide
theorem text_eq (p:Int × Int × Int × Int) (s:Int) (fr:B):text p s fr=dayB p.1 p.2.1 p.2.2.1 (84 :: clockB (p.2.2.2 / 60) (p.2.2.2 % 60) s (frB fr [90])):=by
 unfold text dayB clockB tail frB
 cases fr<;>simp only [List.append_assoc,List.cons_append,List.nil_append]
theorem gap_T (l:B):gap (84 :: l)=some l:=by
 unfold gap
 have:sg [84,116] (84 :: l)=some (84,l):=by simp [sg]
 rw [this]
structure DayOk (y m d:Int):Prop where
 y0:0≤y
 y1:y≤9999
 m0:1≤m
 m1:m≤12
 d0:1≤d
 d1:d≤days y m
theorem DayOk.le {y m d:Int} (h:DayOk y m d):d≤31:=by have:=days_bd y m;have:=h.d1;omega
theorem okMo_of {y m d h mi sec:Int} {fr:B} {z:Int} (hd:DayOk y m d) (h1:h<24) (h2:mi<60) (h3:sec<60):okMo ⟨y,m,d,h,mi,sec,fr,z⟩=true:=by
 unfold okMo
 simp only [dT hd.d0,dT hd.d1,dT h1,dT h2,dT h3,Bool.and_self]
theorem parse_text {y m d k:Int} (hd:DayOk y m d) (k0:0≤k) (k1:k<1440) {sec:Int} (s0:0≤sec) (s1:sec<60) {fr:B} (hf:Fr fr) :
  parse (text (y,m,d,k) sec fr)=some (⟨y,m,d,k / 60,k % 60,sec,fr,0⟩,false):=by
 have:=hd.le
 have m0:=hd.m0;have m1:=hd.m1;have d0:=hd.d0
 rw [text_eq]
 simp only
 rw [parse_day hd.y0 hd.y1 (by omega) (by omega) (by omega) (by omega)]
 simp only [gap_T]
 rw [clock_text (by omega) (by omega) (by omega) (by omega) s0 (by omega),fracs_back hf]
 simp only [zoneE_Z]
theorem adj_same {y m d k:Int} (hd:DayOk y m d):adj y m d k=(y,m,d,k):=by
 have h0:=hd.d0
 have h1:=hd.d1
 unfold adj
 rw [if_neg (by omega),if_neg (by omega)]
theorem putM_same {y m d k sec:Int} {fr:B} (hd:DayOk y m d) (k0:0≤k) (k1:k<1440):putM ⟨y,m,d,k / 60,k % 60,sec,fr,0⟩=(y,m,d,k):=by
 have e:60 * (k / 60)+k % 60 - 0=k:=by omega
 unfold putM
 simp only [e]
 rw [if_neg (by omega),if_neg (by omega)]
 exact adj_same hd
theorem ofT_text {y m d k:Int} (hd:DayOk y m d) (k0:0≤k) (k1:k<1440) {sec:Int} (s0:0≤sec) (s1:sec<60) {fr:B} (hf:Fr fr) :
  ofT (text (y,m,d,k) sec fr)=(text (y,m,d,k) sec fr,true):=by
 unfold ofT
 rw [parse_text hd k0 k1 s0 s1 hf]
 have ho:=okMo_of (h:=k / 60) (mi:=k % 60) (sec:=sec) (fr:=fr) (z:=0) hd (by omega) (by omega) s1
 simp only [ho]
 rw [putM_same hd k0 k1]
 simp only [dT hd.y0,dT hd.y1,Bool.and_self]
theorem adj_ok {y m d k:Int} (hy:0≤y) (m0:1≤m) (m1:m≤12) (d0:0≤d) (d1:d≤days y m+1) (h:0≤(adj y m d k).1∧(adj y m d k).1≤9999) :
  DayOk (adj y m d k).1 (adj y m d k).2.1 (adj y m d k).2.2.1∧(adj y m d k).2.2.2=k:=by
 unfold adj at h ⊢
 by_cases c1:d > days y m
 ·rw [if_pos c1] at h ⊢
  by_cases c2:m+1 > 12
  ·rw [if_pos c2] at h ⊢
   have:=days_pos (y:=y+1) (m:=1) (by omega) (by omega) (by omega)
   exact ⟨⟨h.1,h.2,by simp,by simp,by simp,by simp only;omega⟩,rfl⟩
  ·rw [if_neg c2] at h ⊢
   have:=days_pos (y:=y) (m:=m+1) (by omega) (by omega) (by omega)
   exact ⟨⟨h.1,h.2,by simp only;omega,by simp only;omega,by simp,by simp only;omega⟩,rfl⟩
 ·rw [if_neg c1] at h ⊢
  by_cases c2:d<1
  ·rw [if_pos c2] at h ⊢
   by_cases c3:m - 1<1
   ·rw [if_pos c3] at h ⊢
    simp only at h
    have:=days_pos (y:=y - 1) (m:=12) (by omega) (by omega) (by omega)
    exact ⟨⟨h.1,h.2,by simp,by simp,by simp only;omega,by simp⟩,rfl⟩
   ·rw [if_neg c3] at h ⊢
    have:=days_pos (y:=y) (m:=m - 1) (by omega) (by omega) (by omega)
    exact ⟨⟨h.1,h.2,by simp only;omega,by simp only;omega,by simp only;omega,by simp⟩,rfl⟩
  ·rw [if_neg c2] at h ⊢
   exact ⟨⟨h.1,h.2,m0,m1,by simp only;omega,by simp only;omega⟩,rfl⟩
theorem clock_fr {s fr:B} {h mi sec z:Int} (e:clock s=some (h,mi,sec,fr,z)):Fr fr:=by
 unfold clock at e
 split at e
 ·cases e
 ·split at e
  ·cases e
  ·split at e
   ·cases e
   ·split at e
    ·cases e
    ·split at e
     ·cases e
     ·split at e
      ·cases e
      ·simp only [Option.some.injEq,Prod.mk.injEq] at e
       obtain ⟨-,-,-,rfl,-⟩:=e
       exact fracs_fr _
theorem parse_fr {s:B} {m:Mo} {date:Bool} (h:parse s=some (m,date)):Fr m.fr:=by
 unfold parse at h
 split at h
 ·cases h
 ·split at h
  ·cases h
  ·split at h
   ·cases h
   ·split at h
    ·cases h
    ·split at h
     ·cases h
     ·split at h
      ·split at h
       ·cases h;exact ⟨fun c h=>(by cases h),rfl⟩
       ·cases h
      ·split at h
       ·cases h
       ·split at h
        ·cases h
        ·rename_i e;cases h;exact clock_fr e
theorem putM_ok {m:Mo} (ho:okMo m=true) (hb:0≤m.y∧0≤m.h∧0≤m.mi ∧ -1440<m.z∧m.z<1440) (h:0≤(putM m).1∧(putM m).1≤9999) :
  DayOk (putM m).1 (putM m).2.1 (putM m).2.2.1∧0≤(putM m).2.2.2∧(putM m).2.2.2<1440:=by
 obtain ⟨d0,d1,h1,i1,s1,m0,m1⟩:=ok_bd ho
 obtain ⟨y0,h0,i0,z0,z1⟩:=hb
 unfold putM at h ⊢
 by_cases c1:60 * m.h+m.mi - m.z<0
 ·rw [if_pos c1] at h ⊢
  obtain ⟨a,b⟩:=adj_ok y0 m0 m1 (by omega) (by omega) h
  exact ⟨a,by omega,by omega⟩
 ·rw [if_neg c1] at h ⊢
  by_cases c2:60 * m.h+m.mi - m.z ≥ 1440
  ·rw [if_pos c2] at h ⊢
   obtain ⟨a,b⟩:=adj_ok y0 m0 m1 (by omega) (by omega) h
   exact ⟨a,by omega,by omega⟩
  ·rw [if_neg c2] at h ⊢
   obtain ⟨a,b⟩:=adj_ok y0 m0 m1 (by omega) (by omega) h
   exact ⟨a,by omega,by omega⟩
theorem ofT_idem {s:B} (h:(ofT s).2=true):ofT (ofT s).1=((ofT s).1,true):=by
 unfold ofT at h
 cases hp:parse s with
 | none=>rw [hp] at h;cases h
 | some q =>
  obtain ⟨m,date⟩:=q
  rw [hp] at h
  simp only at h
  cases ho:okMo m with
  | false=>rw [ho] at h;cases h
  | true =>
   rw [ho] at h
   simp only at h
   cases date with
   | true =>
    have e:ofT s=(s,true):=by unfold ofT;rw [hp];simp only [ho]
    rw [e];exact e
   | false =>
    simp only at h
    cases hy:decide (0≤(putM m).1)&&decide ((putM m).1≤9999) with
    | false=>rw [hy] at h;cases h
    | true =>
     have e:ofT s=(text (putM m) m.s m.fr,true):=by unfold ofT;rw [hp];simp only [ho,hy]
     obtain ⟨y0,y1,h0,i0,s0,z0,z1,hfr⟩:=parse_bd hp
     simp at hy
     obtain ⟨a,b,c⟩:=putM_ok ho ⟨y0,h0,i0,z0,z1⟩ hy
     have hs:=(ok_bd ho).2.2.2.2.1
     rw [e]
     exact ofT_text a b c s0 hs (parse_fr hp)
theorem text_len (p:Int × Int × Int × Int) (s:Int) (fr:B):(text p s fr).length≤21+fr.length:=by
 rw [text_eq]
 unfold dayB clockB frB
 cases fr<;>simp [w2_len,w4_len]<;>omega
theorem ofT_len (s:B):(ofT s).1.length≤21+s.length:=by
 unfold ofT
 cases hp:parse s with
 | none=>simp
 | some q =>
  obtain ⟨m,date⟩:=q
  simp only
  cases okMo m with
  | false=>simp
  | true =>
   cases date with
   | true=>simp
   | false =>
    simp only
    cases decide (0≤(putM m).1)&&decide ((putM m).1≤9999) with
    | false=>simp
    | true =>
     have h1:=text_len (putM m) m.s m.fr
     have h2:=(parse_bd hp).2.2.2.2.2.2.2
     simp only
     omega
end Go.Proofs.YtffmgholjdfcnaaGreatDoor
