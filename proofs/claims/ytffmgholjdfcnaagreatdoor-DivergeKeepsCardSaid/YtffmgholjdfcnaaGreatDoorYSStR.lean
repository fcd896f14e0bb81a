import Derived.Test.YtffmgholjdfcnaaGreatDoorYSStQ
set_option linter.unusedSimpArgs false
set_option linter.unusedVariables false
namespace Go.Proofs.YtffmgholjdfcnaaGreatDoor
open Go AM St
variable {C:Nat→Env→(Env→Option Out)→Option Out}
theorem digs_le (m:Nat) (n:Int) (l:B):(digs m n l).2.1.length≤l.length:=by have:=digs_len m n l;omega
theorem sg_le {of s l:B} {c:UInt8} (h:sg of s=some (c,l)):l.length<s.length:=by rw [(sg_mem h).2];simp
section bad
variable {R:Option Out} {s:B}
theorem B12 {K:Tk164} (h:∀ n l,l.length≤s.length→K n l true=R):A164 s true 1 2 K=R:=by rw [A25_12,Bool.true_or];exact h _ _ (digs_le _ _ _)
theorem B22 {K:Tk164} (h:∀ n l,l.length≤s.length→K n l true=R):A164 s true 2 2 K=R:=by rw [A25_22,Bool.true_or];exact h _ _ (digs_le _ _ _)
theorem B26 {of:B} (ho:of.contains 0=false) {K:Tk165} (h:∀ c l,l.length≤s.length→K c l true=R):A165 s true of K=R:=by
 unfold A165
 rw [ho]
 simp only
 cases e:sg of s with
 | none=>exact h _ _ (Nat.le_refl _)
 | some q=>exact h _ _ (Nat.le_of_lt (sg_le (c:=q.1) (l:=q.2) e))
theorem B27 {of:B} {K:Tk166} (h:∀ c l,l.length≤s.length→K c l true=R):A166 s true of K=R:=by
 unfold A166
 cases e:sg of s with
 | none=>exact h _ _ (Nat.le_refl _)
 | some q=>exact h _ _ (Nat.le_of_lt (sg_le (c:=q.1) (l:=q.2) e))
theorem B28 {of:B} (ho:asc of=true) (hl:of.length≤1099511627776) (hs:s.length≤1099511627776) {K:Tk167} (h:∀ x l,x.length≤s.length→l.length≤s.length→K x l true=R):A167 s true of K=R:=by
 unfold A167
 rw [if_pos ⟨ho,hs,hl⟩]
 exact h _ _ (by simp) (behind_len _ _)
theorem B30 {K:Tk168} (h:∀ z l,l.length≤s.length→K z l true=R):A168 s true K=R:=by
 unfold A168 zoneP
 cases e:sg [58] (digs 2 0 s).2.1 with
 | none=>simp only [Bool.true_or];exact h _ _ (digs_le _ _ _)
 | some q=>simp only [Bool.true_or];exact h _ _ (Nat.le_trans (digs_le _ _ _) (Nat.le_trans (Nat.le_of_lt (sg_le (c:=q.1) (l:=q.2) e)) (digs_le _ _ _)))
end bad
theorem A26_some {of s l:B} {c:UInt8} {bad:Bool} {K:Tk165} (ho:of.contains 0=false) (h:sg of s=some (c,l)):A165 s bad of K=K (c.toNat:Int) l bad:=by unfold A165;rw [ho,h]
theorem A26_none {of s:B} {bad:Bool} {K:Tk165} (ho:of.contains 0=false) (h:sg of s=none):A165 s bad of K=K 0 s true:=by unfold A165;rw [ho,h]
theorem A27_some {of s l:B} {c:UInt8} {bad:Bool} {K:Tk166} (h:sg of s=some (c,l)):A166 s bad of K=K (c.toNat:Int) l bad:=by unfold A166;rw [h]
theorem A27_none {of s:B} {bad:Bool} {K:Tk166} (h:sg of s=none):A166 s bad of K=K 0 s bad:=by unfold A166;rw [h]
theorem A28_ok {of s:B} {bad:Bool} {K:Tk167} (ho:asc of=true) (hl:of.length≤1099511627776) (hs:s.length≤1099511627776):A167 s bad of K=K (s.take (s.length - (behind of s).length)) (behind of s) bad:=if_pos ⟨ho,hs,hl⟩
theorem ne0 {of s l:B} {c:UInt8} (hz:of.contains 0=false) (h:sg of s=some (c,l)):((c.toNat:Int) != 0)=true:=by simp [bne,sg_pos hz h]
theorem A29_0 {s:B} {K:Tk151} (h:s.length≤1099511627776):A151 s [48] K=K (Lib.trimRightB s 48):=if_pos ⟨by decide,by omega⟩
theorem num_none {a m:Nat} {s:B} (h:num a m s=none):decide (((digs m 0 s).2.2:Int)<(a:Int))=true:=by
 unfold num at h
 split at h
 ·rename_i e;simpa using e
 ·cases h
theorem num_some {a m:Nat} {s l:B} {n:Int} (h:num a m s=some (n,l)):decide (((digs m 0 s).2.2:Int)<(a:Int))=false∧(digs m 0 s).1=n∧(digs m 0 s).2.1=l:=by
 unfold num at h
 split at h
 ·cases h
 ·rename_i e;cases h;exact ⟨by simpa using e,rfl,rfl⟩
theorem num_le {a m:Nat} {s l:B} {n:Int} (h:num a m s=some (n,l)):l.length≤s.length:=by rw [← (num_some h).2.2];exact digs_le _ _ _
theorem take_nil_iff (s:B) (n:Nat) (h:n≤s.length):(s.take (s.length - n)==([]:B))=decide (n=s.length):=by
 rw [Bool.eq_iff_iff]
 simp [List.take_eq_nil_iff]
 constructor
 ·rintro (h1 | h1)
  ·omega
  ·subst h1;simpa using h
 ·intro h1;omega
section read
variable {Kt:Tk110} {R:Option Out} (hC:∀ key e t,C key e t=t e)
include hC
abbrev T17 {α:Type} (f:Ty151→Ty164→Ty165→Ty166→Ty167→Ty168→Ty169→Nat→α):α:=f A151 A164 A165 A166 A167 A168 A169 big
theorem g2_ok (j:Nat) (a0 a1 a2 a3 a4 a5:Int) (a6:B) (a7 y mo d h mi sec:Int) (fr:B) (z:Int) (date:Bool) (s:B) (bad:Bool) :
  T17 (g2_110 C) (j+1) a0 a1 a2 a3 a4 a5 a6 a7 y mo d h mi sec fr z date s bad Kt=Kt y mo d h mi sec fr z date (!bad&&s==[]&&okMo ⟨y,mo,d,h,mi,sec,fr,z⟩):=by
 unfold T17
 rw [g2_110_eq _ _ _ _ _ _ _ _ hC]
 cases bad with
 | true=>rfl
 | false =>
  cases s with
  | nil=>rfl
  | cons c l=>rfl
theorem p5_ok (j:Nat) (a0 a1 a2 a3 a4 a5:Int) (a6:B) (a7 y mo d h mi sec:Int) (fr:B) (z:Int) (date:Bool) (s:B) (bad:Bool) :
  T17 (p5_110 C) j a0 a1 a2 a3 a4 a5 a6 a7 y mo d h mi sec fr z date s bad Kt=Kt y mo d h mi sec fr z date (!bad&&s==[]&&okMo ⟨y,mo,d,h,mi,sec,fr,z⟩):=by
 unfold T17
 rw [p5_110_eq _ _ _ _ _ _ _ _ hC]
 cases bad with
 | true=>rfl
 | false =>
  cases s with
  | nil=>rfl
  | cons c l=>rfl
variable (hR:∀ y mo d h mi sec fr z date,Kt y mo d h mi sec fr z date false=R)
include hR
theorem g2_bad (j:Nat) (a0 a1 a2 a3 a4 a5:Int) (a6:B) (a7 y mo d h mi sec:Int) (fr:B) (z:Int) (date:Bool) (s:B) :
  T17 (g2_110 C) (j+1) a0 a1 a2 a3 a4 a5 a6 a7 y mo d h mi sec fr z date s true Kt=R:=(g2_ok hC ..).trans (hR ..)
theorem p4_bad (j:Nat) (a0 a1 a2 a3 a4 a5:Int) (a6:B) (a7 y mo d h mi sec:Int) (fr:B) (z:Int) (date:Bool) (s:B) (hs:s.length≤1099511627776) :
  T17 (p4_110 C) (j+1) a0 a1 a2 a3 a4 a5 a6 a7 y mo d h mi sec fr z date s true Kt=R:=by
 unfold T17
 rw [p4_110_eq _ _ _ _ _ _ _ _ hC]
 cases s==([]:B) with
 | true=>exact g2_bad hC hR ..
 | false =>
  simp only [cond_false]
  refine B28 (by decide) (by decide) hs fun x l _ hl=>?_
  refine B27 fun c l' hl'=>?_
  cases c != 0 with
  | true=>exact g2_bad hC hR ..
  | false =>
   simp only [cond_false]
   refine B26 (by decide) fun c2 l2 hl2=>?_
   refine B30 fun z2 l3 hl3=>?_
   cases c2==45<;>(simp only [cond_true,cond_false];refine (p5_ok hC ..).trans ?_;exact hR ..)
theorem p1_bad (j:Nat) (a0 a1 a2 a3 a4 a5:Int) (a6:B) (a7 y mo d h mi sec:Int) (fr:B) (z:Int) (date:Bool) (s:B) :
  T17 (p1_110 C) (j+1) a0 a1 a2 a3 a4 a5 a6 a7 y mo d h mi sec fr z date s true Kt=R:=by
 unfold T17
 rw [p1_110_eq _ _ _ _ _ _ _ _ hC]
 exact g2_bad hC hR ..
theorem p4_good (j:Nat) (a0 a1 a2 a3 a4 a5:Int) (a6:B) (a7 y mo d h mi sec:Int) (fr s:B) (hs:s.length≤1099511627776) :
  T17 (p4_110 C) (j+1) a0 a1 a2 a3 a4 a5 a6 a7 y mo d h mi sec fr 0 false s false Kt=match zoneE s with
   | none=>R
   | some z=>Kt y mo d h mi sec fr z false (okMo ⟨y,mo,d,h,mi,sec,fr,z⟩):=by
 unfold T17
 rw [p4_110_eq _ _ _ _ _ _ _ _ hC]
 cases s with
 | nil=>simp only [zoneE];exact (g2_ok hC ..).trans rfl
 | cons c0 l0 =>
  have e:((c0 :: l0)==([]:B))=false:=rfl
  rw [e,cond_false,A28_ok (by decide) (by decide) hs]
  have hb:=behind_len [32,9] (c0 :: l0)
  unfold zoneE
  simp only
  generalize behind [32,9] (c0 :: l0)=t at hb ⊢
  cases e1:sg [90] t with
  | some q =>
   obtain ⟨c,l⟩:=q
   rw [A27_some e1]
   simp only [ne0 (of:=[90]) (by decide) e1,cond_true]
   refine (g2_ok hC ..).trans ?_
   cases l with
   | nil=>rfl
   | cons a b=>exact hR ..
  | none =>
   rw [A27_none e1]
   have z0:((0:Int) != 0)=false:=rfl
   simp only [z0,cond_false]
   cases e2:sg [43,45] t with
   | none =>
    rw [A26_none (by decide) e2]
    simp only
    refine B30 fun z2 l3 hl3=>?_
    have z45:((0:Int)==45)=false:=rfl
    simp only [z45,cond_false]
    refine (p5_ok hC ..).trans ?_
    exact hR ..
   | some q =>
    obtain ⟨c,l⟩:=q
    rw [A26_some (by decide) e2]
    simp only [A168]
    have h45:((c.toNat:Int)==45)=(c==45):=by
     rw [Bool.eq_iff_iff];simp [← UInt8.toNat_inj]
     omega
    have hzb:0≤(zoneP l false).1∧(zoneP l false).1≤10000:=by
     unfold zoneP
     have:=digs2_bd l
     cases e3:sg [58] (digs 2 0 l).2.1 with
     | none=>simp only;omega
     | some q=>have:=digs2_bd q.2;simp only;omega
    have hz:zone l=(match (zoneP l false).2.2 with | true=>none | false=>some ((zoneP l false).1,(zoneP l false).2.1)):=by
     unfold zone zoneP
     cases e3:num 1 2 l with
     | none =>
      have k1:=num_none e3
      simp only [Int.natCast_one] at k1
      cases e4:sg [58] (digs 2 0 l).2.1 with
      | none=>simp [k1]
      | some q=>simp [k1]
     | some p =>
      obtain ⟨k1,k2,k3⟩:=num_some (l:=p.2) (n:=p.1) e3
      simp only [Int.natCast_one] at k1
      rw [k2,k3]
      simp only [k1,Bool.false_or]
      cases e4:sg [58] p.2 with
      | none =>
       simp only
       by_cases hh:p.1≤23
       ·have h':¬ p.1 > 23:=by omega
        simp [hh,h']
       ·have h':p.1 > 23:=by omega
        simp [hh,h']
      | some q =>
       simp only
       cases e5:num 2 2 q.2 with
       | none =>
        have m1:=num_none e5
        simp at m1
        simp [m1]
       | some o =>
        obtain ⟨m1,m2,m3⟩:=num_some (l:=o.2) (n:=o.1) e5
        rw [m2,m3]
        simp at m1
        have m1':¬ ((digs 2 0 q.2).2.2:Int)<2:=by omega
        by_cases hh:p.1≤23
        ·have h':¬ p.1 > 23:=by omega
         by_cases kk:o.1≤59
         ·have k':¬ o.1 > 59:=by omega
          simp [hh,h',kk,k',m1']
         ·have k':o.1 > 59:=by omega
          simp [hh,h',kk,k',m1']
        ·have h':p.1 > 23:=by omega
         simp [hh,h',m1']
    rw [h45,hz]
    generalize zoneP l false=zp at hzb ⊢
    obtain ⟨zz,zl,zb⟩:=zp
    simp only at hzb ⊢
    rw [i64_in (n:=0 - zz) (by omega) (by omega),Int.zero_sub]
    cases zb with
    | true=>cases c==45<;>(refine (p5_ok hC ..).trans ?_;exact hR ..)
    | false =>
     cases zl with
     | nil=>cases c==45<;>exact (p5_ok hC ..).trans rfl
     | cons a b=>cases c==45<;>(refine (p5_ok hC ..).trans ?_;exact hR ..)
theorem g3_good (j:Nat) (a0 a1 a2 a3 a4 a5:Int) (a6:B) (a7 y mo d h mi sec:Int) (s:B) (hs:s.length≤1099511627776) :
  T17 (g3_110 C) (j+2) a0 a1 a2 a3 a4 a5 a6 a7 y mo d h mi sec [] 0 false s false Kt=match clock s with
   | none=>R
   | some (h,mi,sec,fr,z)=>Kt y mo d h mi sec fr z false (okMo ⟨y,mo,d,h,mi,sec,fr,z⟩):=by
 unfold T17 clock
 rw [g3_110_eq _ _ _ _ _ _ _ _ hC]
 rw [A25_12,Bool.false_or]
 have rest:∀ (f:Int→Int→Int→Int→B→Bool→Option Out),True:=fun _=>trivial
 have rest3:∀ (hh mm ss:Int) (l:B),l.length≤1099511627776 →
   (A166 l true [46] fun r60 r61 r62=>(bif (r60 != 0) then (A167 r61 r62 ([48,49,50,51,52,53,54,55,56,57]:List UInt8) fun r63 r64 r65=>(A151 r63 ([48]:List UInt8) fun r66=>(p4_110 C A151 A164 A165 A166 A167 A168 A169 big (j+1) a0 a1 a2 a3 a4 a5 a6 a7 y mo d hh mm ss r66 0 false r64 r65 Kt))) else (p4_110 C A151 A164 A165 A166 A167 A168 A169 big (j+1) a0 a1 a2 a3 a4 a5 a6 a7 y mo d hh mm ss [] 0 false r61 r62 Kt)))=R:=by
  intro hh mm ss l hl
  refine B27 fun c l6 h6=>?_
  cases c != 0 with
  | true =>
   simp only [cond_true]
   refine B28 (by decide) (by decide) (by omega) fun x l7 hx h7=>?_
   rw [A29_0 (by omega)]
   exact p4_bad hC hR _ _ _ _ _ _ _ _ _ _ _ _ _ _ _ _ _ _ _ (by omega)
  | false=>exact p4_bad hC hR _ _ _ _ _ _ _ _ _ _ _ _ _ _ _ _ _ _ _ (by omega)
 cases e1:num 1 2 s with
 | none =>
  have k1:=num_none e1
  simp only [Int.natCast_one] at k1
  rw [k1]
  have:=digs_le 2 0 s
  simp only
  refine B26 (by decide) fun _ l2 h2=>?_
  refine B22 fun _ l3 h3=>?_
  refine B26 (by decide) fun _ l4 h4=>?_
  refine B22 fun _ l5 h5=>?_
  exact rest3 _ _ _ _ (by omega)
 | some p =>
  obtain ⟨hh,s1⟩:=p
  obtain ⟨k1,k2,k3⟩:=num_some e1
  have q1:=num_le e1
  simp only [Int.natCast_one] at k1
  rw [k1,k2,k3]
  simp only
  cases e2:sg [58] s1 with
  | none =>
   rw [A26_none (by decide) e2]
   simp only
   refine B22 fun _ l3 h3=>?_
   refine B26 (by decide) fun _ l4 h4=>?_
   refine B22 fun _ l5 h5=>?_
   exact rest3 _ _ _ _ (by omega)
  | some p =>
   obtain ⟨c2,s2⟩:=p
   rw [A26_some (by decide) e2]
   have q2:=sg_le e2
   simp only
   rw [A25_22,Bool.false_or]
   cases e3:num 2 2 s2 with
   | none =>
    have m1:=num_none e3
    have:decide (((digs 2 0 s2).2.2:Int)<2)=true:=m1
    rw [this]
    have:=digs_le 2 0 s2
    simp only
    refine B26 (by decide) fun _ l4 h4=>?_
    refine B22 fun _ l5 h5=>?_
    exact rest3 _ _ _ _ (by omega)
   | some p =>
    obtain ⟨mm,s3⟩:=p
    obtain ⟨m1,m2,m3⟩:=num_some e3
    have q3:=num_le e3
    have m1:decide (((digs 2 0 s2).2.2:Int)<2)=false:=m1
    rw [m1,m2,m3]
    simp only
    cases e4:sg [58] s3 with
    | none =>
     rw [A26_none (by decide) e4]
     simp only
     refine B22 fun _ l5 h5=>?_
     exact rest3 _ _ _ _ (by omega)
    | some p =>
     obtain ⟨c4,s4⟩:=p
     rw [A26_some (by decide) e4]
     have q4:=sg_le e4
     simp only
     rw [A25_22,Bool.false_or]
     cases e5:num 2 2 s4 with
     | none =>
      have m1:=num_none e5
      have:decide (((digs 2 0 s4).2.2:Int)<2)=true:=m1
      rw [this]
      have:=digs_le 2 0 s4
      simp only
      exact rest3 _ _ _ _ (by omega)
     | some p =>
      obtain ⟨ss,s5⟩:=p
      obtain ⟨m1,m2,m3⟩:=num_some e5
      have q5:=num_le e5
      have m1:decide (((digs 2 0 s4).2.2:Int)<2)=false:=m1
      rw [m1,m2,m3]
      simp only
      unfold fracs
      cases e6:sg [46] s5 with
      | none =>
       rw [A27_none e6]
       have z0:((0:Int) != 0)=false:=rfl
       simp only [z0,cond_false]
       refine (p4_good hC hR _ _ _ _ _ _ _ _ _ _ _ _ _ _ _ _ _ (by omega)).trans ?_
       cases zoneE s5<;>rfl
      | some p =>
       obtain ⟨c6,s6⟩:=p
       have q6:=sg_le e6
       rw [A27_some e6]
       simp only [ne0 (of:=[46]) (by decide) e6,cond_true]
       rw [A28_ok (by decide) (by decide) (by omega),A29_0 (by simp;omega)]
       have:=behind_len [48,49,50,51,52,53,54,55,56,57] s6
       refine (p4_good hC hR _ _ _ _ _ _ _ _ _ _ _ _ _ _ _ _ _ (by omega)).trans ?_
       cases zoneE (behind [48,49,50,51,52,53,54,55,56,57] s6)<;>rfl
theorem read_ok (s:B) (hs:s.length≤1099511627776):T17 (run110 C) s Kt=match parse s with
  | none=>R
  | some (m,date)=>Kt m.y m.mo m.d m.h m.mi m.s m.fr m.z date (okMo m):=by
 obtain ⟨j,hj⟩:∃ j,big=j+3:=⟨big - 3,by have:=big_gt (n:=3) (by omega);omega⟩
 unfold T17 parse
 rw [run110_eq,A25_44,Bool.false_or]
 have P1:∀ y mo d b l,(bif (l==([]:B)) then (p1_110 C A151 A164 A165 A166 A167 A168 A169 big big 0 0 0 0 0 0 ([]:List UInt8) 0 y mo d 0 0 0 ([]:List UInt8) 0 b l true Kt) else (p1_110 C A151 A164 A165 A166 A167 A168 A169 big big 0 0 0 0 0 0 ([]:List UInt8) 0 y mo d 0 0 0 ([]:List UInt8) 0 false l true Kt))=R:=by
  intro y mo d b l
  have:=p1_bad hC hR (j+2)
  rw [show j+2+1=big by omega] at this
  cases l==([]:B)<;>exact this ..
 cases e1:num 4 4 s with
 | none =>
  have m1:decide (((digs 4 0 s).2.2:Int)<4)=true:=num_none e1
  rw [m1]
  simp only
  refine B26 (by decide) fun _ l2 h2=>?_
  refine B12 fun _ l3 h3=>?_
  refine B26 (by decide) fun _ l4 h4=>?_
  refine B12 fun _ l5 h5=>?_
  exact P1 ..
 | some p =>
  obtain ⟨y,s1⟩:=p
  obtain ⟨m1,m2,m3⟩:=num_some e1
  have q1:=num_le e1
  have m1:decide (((digs 4 0 s).2.2:Int)<4)=false:=m1
  rw [m1,m2,m3]
  simp only
  cases e2:sg [45] s1 with
  | none =>
   rw [A26_none (by decide) e2]
   simp only
   refine B12 fun _ l3 h3=>?_
   refine B26 (by decide) fun _ l4 h4=>?_
   refine B12 fun _ l5 h5=>?_
   exact P1 ..
  | some p =>
   obtain ⟨c2,s2⟩:=p
   have q2:=sg_le e2
   rw [A26_some (by decide) e2]
   simp only
   rw [A25_12,Bool.false_or]
   cases e3:num 1 2 s2 with
   | none =>
    have m1:decide (((digs 2 0 s2).2.2:Int)<1)=true:=num_none e3
    rw [m1]
    simp only
    refine B26 (by decide) fun _ l4 h4=>?_
    refine B12 fun _ l5 h5=>?_
    exact P1 ..
   | some p =>
    obtain ⟨mo,s3⟩:=p
    obtain ⟨m1,m2,m3⟩:=num_some e3
    have q3:=num_le e3
    have m1:decide (((digs 2 0 s2).2.2:Int)<1)=false:=m1
    rw [m1,m2,m3]
    simp only
    cases e4:sg [45] s3 with
    | none =>
     rw [A26_none (by decide) e4]
     simp only
     refine B12 fun _ l5 h5=>?_
     exact P1 ..
    | some p =>
     obtain ⟨c4,s4⟩:=p
     have q4:=sg_le e4
     rw [A26_some (by decide) e4]
     simp only
     rw [A25_12,Bool.false_or]
     cases e5:num 1 2 s4 with
     | none =>
      have m1:decide (((digs 2 0 s4).2.2:Int)<1)=true:=num_none e5
      rw [m1]
      exact P1 ..
     | some p =>
      obtain ⟨d,s5⟩:=p
      obtain ⟨m1,m2,m3⟩:=num_some e5
      have q5:=num_le e5
      have m1:decide (((digs 2 0 s4).2.2:Int)<1)=false:=m1
      rw [m1,m2,m3]
      simp only
      have hz0:A166 [] false [84,116]=fun K=>K 0 [] false:=by funext K;rfl
      cases s5 with
      | nil =>
       have e0:(([]:B)==([]:B))=true:=rfl
       have e5:((s2.length:Int)==5)=decide (s2.length=5):=by
        rw [Bool.eq_iff_iff];simp;omega
       simp only [e0,cond_true]
       rw [p1_110_eq _ _ _ _ _ _ _ _ hC,e5,hj]
       cases decide (s2.length=5) with
       | true =>
        simp only [cond_false,cond_true]
        exact (g2_ok hC ..).trans rfl
       | false =>
        simp only [cond_false]
        rw [A27_none (s:=[]) (by rfl)]
        have z0:((0:Int) != 0)=false:=rfl
        simp only [z0,cond_false]
        rw [A28_ok (by decide) (by decide) (by simp)]
        exact g2_bad hC hR ..
      | cons c0 l0 =>
       have e0:((c0 :: l0)==([]:B))=false:=rfl
       simp only [e0,cond_false]
       rw [p1_110_eq _ _ _ _ _ _ _ _ hC,hj]
       simp only [cond_false]
       unfold gap
       cases e6:sg [84,116] (c0 :: l0) with
       | some p =>
        obtain ⟨c6,s6⟩:=p
        have q6:=sg_le e6
        rw [A27_some e6]
        simp only [ne0 (of:=[84,116]) (by decide) e6,cond_true]
        rw [← hj]
        refine Eq.trans (b:=T17 (g3_110 C) (j+1+2) 0 0 0 0 0 0 [] 0 y mo d 0 0 0 [] 0 false s6 false Kt) (by rw [show j+1+2=big by omega]) ?_
        refine (g3_good hC hR (j+1) _ _ _ _ _ _ _ _ _ _ _ _ _ _ _ (by omega)).trans ?_
        cases clock s6<;>rfl
       | none =>
        rw [A27_none e6]
        have z0:((0:Int) != 0)=false:=rfl
        simp only [z0,cond_false]
        rw [A28_ok (by decide) (by decide) (by omega)]
        have hb:=behind_len [32,9] (c0 :: l0)
        rw [take_nil_iff _ _ hb]
        cases decide ((behind [32,9] (c0 :: l0)).length=(c0 :: l0).length) with
        | true=>exact g2_bad hC hR ..
        | false =>
         simp only [cond_false]
         have e7:=g3_110_eq C A151 A164 A165 A166 A167 A168 A169 hC (j+3) (j+3) 0 0 0 0 0 0 [] 0 y mo d 0 0 0 [] 0 false (behind [32,9] (c0 :: l0)) false Kt
         rw [← e7,← hj]
         refine Eq.trans (b:=T17 (g3_110 C) (j+2+2) 0 0 0 0 0 0 [] 0 y mo d 0 0 0 [] 0 false (behind [32,9] (c0 :: l0)) false Kt) (by rw [show j+2+2=big+1 by omega]) ?_
         refine (g3_good hC hR (j+2) _ _ _ _ _ _ _ _ _ _ _ _ _ _ _ (by omega)).trans ?_
         cases clock (behind [32,9] (c0 :: l0))<;>rfl
end read
end Go.Proofs.YtffmgholjdfcnaaGreatDoor
