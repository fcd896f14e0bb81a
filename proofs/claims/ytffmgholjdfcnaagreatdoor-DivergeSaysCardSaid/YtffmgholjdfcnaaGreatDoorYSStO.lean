import Derived.Test.YtffmgholjdfcnaaGreatDoorYSStR
set_option linter.unusedSimpArgs false
set_option linter.unusedVariables false
namespace Go.Proofs.YtffmgholjdfcnaaGreatDoor
open Go AM St
variable {C:Nat→Env→(Env→Option Out)→Option Out}
theorem num_bd2 {a:Nat} {s l:B} {n:Int} (h:num a 2 s=some (n,l)):0≤n∧n≤99:=by rw [← (num_some h).2.1];exact digs2_bd s
theorem num_bd4 {a:Nat} {s l:B} {n:Int} (h:num a 4 s=some (n,l)):0≤n∧n≤9999:=by rw [← (num_some h).2.1];exact digs4_bd s
theorem zone_bd {s l:B} {z:Int} (h:zone s=some (z,l)):0≤z∧z<1440:=by
 unfold zone at h
 split at h
 ·cases h
 ·rename_i hh s1 e1
  have b1:=num_bd2 e1
  split at h
  ·split at h
   ·rename_i e;cases h;simp at e;omega
   ·cases h
  ·split at h
   ·cases h
   ·rename_i k s3 e3
    have b2:=num_bd2 e3
    split at h
    ·rename_i e;cases h;simp at e;omega
    ·cases h
theorem zoneE_bd {s:B} {z:Int} (h:zoneE s=some z):-1440<z∧z<1440:=by
 unfold zoneE at h
 split at h
 ·cases h;omega
 ·split at h
  ·cases h;omega
  ·cases h
  ·split at h
   ·cases h
   ·split at h
    ·rename_i z0 e
     have:=zone_bd e
     cases h
     split<;>omega
    ·cases h
theorem trim_le (l:B) (c:UInt8):(Lib.trimRightB l c).length≤l.length:=by
 unfold Lib.trimRightB
 rw [List.length_reverse]
 have h:=(List.dropWhile_suffix (l:=l.reverse) (fun x=>x==c)).length_le
 rwa [List.length_reverse] at h
theorem fracs_le (s:B):(fracs s).1.length≤s.length:=by
 unfold fracs
 split
 ·simp
 ·rename_i c l e
  have:=sg_le e
  have h2:=trim_le (l.take (l.length - (behind [48,49,50,51,52,53,54,55,56,57] l).length)) 48
  simp at h2 ⊢
  omega
theorem clock_bd {s fr:B} {h mi sec z:Int} (e:clock s=some (h,mi,sec,fr,z)):0≤h∧0≤mi∧0≤sec ∧ -1440<z∧z<1440∧fr.length≤s.length:=by
 unfold clock at e
 split at e
 ·cases e
 ·rename_i hh s1 e1
  have b1:=num_bd2 e1
  have q1:=num_le e1
  split at e
  ·cases e
  ·rename_i c2 s2 e2
   have q2:=sg_le e2
   split at e
   ·cases e
   ·rename_i mm s3 e3
    have b3:=num_bd2 e3
    have q3:=num_le e3
    split at e
    ·cases e
    ·rename_i c4 s4 e4
     have q4:=sg_le e4
     split at e
     ·cases e
     ·rename_i ss s5 e5
      have b5:=num_bd2 e5
      have q5:=num_le e5
      have q6:=fracs_le s5
      split at e
      ·cases e
      ·rename_i zz e6
       have:=zoneE_bd e6
       simp only [Option.some.injEq,Prod.mk.injEq] at e
       obtain ⟨rfl,rfl,rfl,rfl,rfl⟩:=e
       omega
theorem gap_le {s l:B} (h:gap s=some l):l.length≤s.length:=by
 unfold gap at h
 split at h
 ·rename_i e;cases h;exact Nat.le_of_lt (sg_le e)
 ·split at h
  ·cases h
  ·cases h;exact behind_len _ _
theorem parse_bd {s:B} {m:Mo} {date:Bool} (h:parse s=some (m,date)):0≤m.y∧m.y≤9999∧0≤m.h∧0≤m.mi∧0≤m.s ∧ -1440<m.z∧m.z<1440∧m.fr.length≤s.length:=by
 unfold parse at h
 split at h
 ·cases h
 ·rename_i y s1 e1
  have b1:=num_bd4 e1
  have q1:=num_le e1
  split at h
  ·cases h
  ·rename_i c2 s2 e2
   have q2:=sg_le e2
   split at h
   ·cases h
   ·rename_i mo s3 e3
    have q3:=num_le e3
    split at h
    ·cases h
    ·rename_i c4 s4 e4
     have q4:=sg_le e4
     split at h
     ·cases h
     ·rename_i d s5 e5
      have q5:=num_le e5
      split at h
      ·split at h
       ·cases h;simp;omega
       ·cases h
      ·rename_i a b
       split at h
       ·cases h
       ·rename_i s6 e6
        have q6:=gap_le e6
        split at h
        ·cases h
        ·rename_i hh mi sec fr z e7
         have:=clock_bd e7
         cases h
         simp only at this ⊢
         omega
theorem days_m {y m:Int} (h:1≤days y m):0≤y∧1≤m∧m≤12:=by
 unfold days at h
 split at h
 ·omega
 ·omega
theorem ok_bd {m:Mo} (h:okMo m=true):1≤m.d∧m.d≤days m.y m.mo∧m.h<24∧m.mi<60∧m.s<60∧1≤m.mo∧m.mo≤12:=by
 unfold okMo at h
 simp at h
 have:=days_m (y:=m.y) (m:=m.mo) (by omega)
 omega
theorem put_bd (m:Mo) (h:okMo m=true) (hh:0≤m.h) (hm:0≤m.mi) (hz:-1440<m.z∧m.z<1440) (hy:0≤m.y) :
  1≤(putM m).2.1∧(putM m).2.1≤12∧0≤(putM m).2.2.1∧(putM m).2.2.1≤31∧0≤(putM m).2.2.2∧(putM m).2.2.2<1440:=by
 have hb:=ok_bd h
 have hd:=days_bd m.y m.mo
 have k1:=days_bd (m.y - 1) 12
 have k2:=days_bd m.y (m.mo - 1)
 have key:∀ d k,0≤d→d≤32→0≤k→k<1440→1≤(adj m.y m.mo d k).2.1∧(adj m.y m.mo d k).2.1≤12∧0≤(adj m.y m.mo d k).2.2.1∧(adj m.y m.mo d k).2.2.1≤31∧0≤(adj m.y m.mo d k).2.2.2∧(adj m.y m.mo d k).2.2.2<1440:=by
  intro d k h1 h2 h3 h4
  unfold adj
  split
  ·split<;>simp only<;>omega
  ·split
   ·split<;>simp only<;>omega
   ·simp only;omega
 unfold putM
 split
 ·exact key _ _ (by omega) (by omega) (by omega) (by omega)
 ·split
  ·exact key _ _ (by omega) (by omega) (by omega) (by omega)
  ·exact key _ _ (by omega) (by omega) (by omega) (by omega)
def Reads (N:Ty110):Prop:=∀ (s:B) (Kt:Tk110) (R:Option Out),(∀ y mo d h mi sec fr z date,Kt y mo d h mi sec fr z date false=R)→s.length≤1099511627776 →
 N s Kt=match parse s with
  | none=>R
  | some (m,date)=>Kt m.y m.mo m.d m.h m.mi m.s m.fr m.z date (okMo m)
theorem reads17:Reads (run110 cut0 A151 A164 A165 A166 A167 A168 A169 big):=fun s Kt R hR hs=>read_ok cut0_eq hR s hs
def A43:Ty43:=fun s K=>if s.length≤281474976710656 then K s else none
theorem eq43 (s:B) (K:Tk43) (r:Out) (h:A43 s K=some r):run43 C A68 big s K=some r:=by rw [run43_eq];exact h
def A67:Ty67:=fun s K=>if s.length≤1099511627776 then K (ofT s).1 (ofT s).2 else none
theorem w2_len (n:Int):(w2 n).length=2:=rfl
theorem w4_len (n:Int):(w4 n).length=4:=rfl
theorem A20_2 {n:Int} {K:Tk112} (h:0≤n∧n≤99):A112 n 2 K=K (w2 n):=if_pos ⟨rfl,h⟩
theorem A20_4 {n:Int} {K:Tk112} (h:0≤n∧n≤9999):A112 n 4 K=K (w4 n):=by unfold A112;rw [if_neg (by omega),if_pos ⟨rfl,h⟩]
theorem eq67 (hC:∀ key e t,C key e t=t e) {N110:Ty110} (h17:Reads N110) (s:B) (K:Tk67) (r:Out) (h:A67 s K=some r):run67 C A43 N110 A111 A112 big s K=some r:=by
 unfold A67 at h
 split at h
 ·rename_i hs
  rw [← h,run67_eq]
  rw [h17 s _ (K [] false) ?hR hs]
  case hR=>intro _ _ _ _ _ _ _ _ _;rfl
  unfold ofT
  cases hp:parse s with
  | none=>rfl
  | some p =>
   obtain ⟨m,date⟩:=p
   simp only
   cases ho:okMo m with
   | false=>rfl
   | true =>
    simp only [Bool.not_true,cond_false]
    cases date with
    | true=>exact if_pos (by omega)
    | false =>
     simp only [cond_false]
     obtain ⟨y0,y1,h0,i0,s0,z0,z1,hfr⟩:=parse_bd hp
     obtain ⟨d0,d1,h1,i1,s1,m0,m1⟩:=ok_bd ho
     have hdm:=days_bd m.y m.mo
     obtain ⟨p1,p2,p3,p4,p5,p6⟩:=put_bd m ho h0 i0 ⟨z0,z1⟩ y0
     unfold A111
     rw [if_pos ⟨y0,y1,m0,m1,d0,by omega,h0,h1,i0,i1,z0,z1⟩]
     have e:(⟨m.y,m.mo,m.d,m.h,m.mi,m.s,m.fr,m.z⟩:Mo)=m:=rfl
     rw [e]
     cases hq:decide (0≤(putM m).1)&&decide ((putM m).1≤9999) with
     | false=>rfl
     | true =>
      simp at hq
      simp only [Bool.not_true,cond_false]
      rw [A20_4 ⟨hq.1,hq.2⟩,cat_ok (by simp [w4_len]),oB,A20_2 ⟨by omega,by omega⟩,cat_ok (by simp [w4_len,w2_len]),oB,cat_ok (by simp [w4_len,w2_len]),oB,
       A20_2 ⟨by omega,by omega⟩,cat_ok (by simp [w4_len,w2_len]),oB,A20_2 ⟨by omega,by omega⟩,cat_ok (by simp [w2_len]),oB,cat_ok (by simp [w2_len]),oB,
       A20_2 ⟨by omega,by omega⟩,cat_ok (by simp [w2_len]),oB,cat_ok (by simp [w2_len]),oB,A20_2 ⟨by omega,by omega⟩,cat_ok (by simp [w2_len]),oB,cat_ok (by simp [w4_len,w2_len]),oB]
      simp only [p1_67_eq _ _ _ _ _ hC]
      unfold text tail
      cases hf:m.fr with
      | nil =>
       have e0:(!(([]:B)==([]:B)))=false:=rfl
       simp only [e0,cond_false]
       rw [cat_ok (by simp [w4_len,w2_len]),oB]
       simp only [List.append_assoc,List.cons_append,List.nil_append]
      | cons a l =>
       have e0:(!((a :: l)==([]:B)))=true:=rfl
       simp only [e0,cond_true]
       rw [hf] at hfr
       rw [cat_ok (by simp at hfr ⊢;omega),oB,cat_ok (by simp [w4_len,w2_len] at hfr ⊢;omega),oB,cat_ok (by simp [w4_len,w2_len] at hfr ⊢;omega),oB]
       simp only [List.append_assoc,List.cons_append,List.nil_append]
 ·cases h
end Go.Proofs.YtffmgholjdfcnaaGreatDoor
