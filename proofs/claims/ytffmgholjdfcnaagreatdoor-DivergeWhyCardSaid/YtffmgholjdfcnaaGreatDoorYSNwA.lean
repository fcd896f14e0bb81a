import Derived.Test.YtffmgholjdfcnaaGreatDoorYSNvF
set_option linter.unusedSimpArgs false
set_option linter.unusedVariables false
namespace Go.Proofs.YtffmgholjdfcnaaGreatDoor
open Go AM St Nu
def easyC (c:UInt8):Bool:=decide (33≤c.toNat)&&decide (c.toNat≤126)&&!(c==34)&&!(c==92)
def easy (s:B):Bool:=s.all easyC
def quoteT (s:B):B:=[34]++s++[34]
def tagT:B:=[33,60]++tTime++[62,32]
theorem easy_dg (c:UInt8):(!dg c || easyC c)=true:=allU8 (P:=fun c=>(!dg c || easyC c)=true) (by decide +kernel) c
theorem easy_hex (c:UInt8):(!decide (hexD c<16) || easyC c)=true:=allU8 (P:=fun c=>(!decide (hexD c<16) || easyC c)=true) (by decide +kernel) c
theorem easy_s (c:UInt8):(!isS c || easyC c)=true:=allU8 (P:=fun c=>(!isS c || easyC c)=true) (by decide +kernel) c
theorem easy_of {p:UInt8→Bool} (hp:∀ c,(!p c || easyC c)=true) {l:B} (h:l.all p=true):easy l=true:=by
 unfold easy
 rw [List.all_eq_true] at h ⊢
 intro c hc
 have h1:=hp c
 rw [h c hc] at h1
 exact h1
theorem easy_app {a b:B} (ha:easy a=true) (hb:easy b=true):easy (a++b)=true:=by
 unfold easy at *
 rw [List.all_append,ha,hb];rfl
theorem easy_cons {c:UInt8} {l:B} (hc:easyC c=true) (hl:easy l=true):easy (c :: l)=true:=by
 unfold easy at *
 rw [List.all_cons,hc,hl];rfl
theorem unsign_easy {s:B} (h:easy (unsign s).2=true):easy s=true:=by
 cases s with
 | nil=>rfl
 | cons c l =>
  cases hs:isS c with
  | false =>
   have:(unsign (c :: l)).2=c :: l:=by unfold unsign;simp only [hs]
   rw [this] at h;exact h
  | true =>
   have:(unsign (c :: l)).2=l:=by unfold unsign;simp only [hs]
   rw [this] at h
   refine easy_cons ?_ h
   have h1:=easy_s c
   rw [hs] at h1
   exact h1
theorem isD_easy {l:B} (h:isD l=true):easy l=true:=easy_of easy_dg (isD_all h).1
theorem norm_isD {neg:Bool} {l:B} (h:norm neg l ≠ []):isD l=true:=by
 unfold norm at h
 cases hd:isD l with
 | true=>rfl
 | false=>rw [hd] at h;exact absurd rfl h
theorem hexs_easy {b:Int} (hb:b≤16) {l:B} (h:l.all (fun c=>decide (hexD c<b))=true):easy l=true:=by
 refine easy_of easy_hex ?_
 rw [List.all_eq_true] at h ⊢
 intro c hc
 have:=h c hc
 simp only [decide_eq_true_eq] at this ⊢
 omega
theorem baseN_easy {b:Int} (hb:b≤16) {l:B} (h:baseN l b ≠ []):easy l=true:=by
 unfold baseN at h
 split at h
 ·exact hexs_easy hb (baseGo_all _ _ h)
 ·exact absurd rfl h
theorem int12_easy {s:B} (h:int12 s ≠ []):easy s=true:=by
 unfold int12 at h
 split at h
 ·rename_i c d l
  cases h1:c==48&&d==111 with
  | true =>
   rw [h1] at h
   rw [Bool.and_eq_true] at h1
   rw [eq_of_beq h1.1,eq_of_beq h1.2]
   exact easy_cons (by decide) (easy_cons (by decide) (baseN_easy (by decide) h))
  | false =>
   rw [h1] at h
   simp only at h
   cases h2:c==48&&d==120 with
   | true =>
    rw [h2] at h
    rw [Bool.and_eq_true] at h2
    rw [eq_of_beq h2.1,eq_of_beq h2.2]
    exact easy_cons (by decide) (easy_cons (by decide) (baseN_easy (by decide) h))
   | false =>
    rw [h2] at h
    exact unsign_easy (isD_easy (norm_isD h))
 ·exact unsign_easy (isD_easy (norm_isD h))
theorem tailE_easy {s e:B} (h:tailE true s=some e):easy s=true:=by
 unfold tailE at h
 cases s with
 | nil=>rfl
 | cons c l =>
  simp only at h
  cases hc:c==101 || c==69 with
  | false=>rw [hc] at h;cases h
  | true =>
   rw [hc] at h
   simp only [Bool.true_or,Bool.true_and] at h
   cases hd:isD (unsign l).2 with
   | false=>rw [hd] at h;cases h
   | true =>
    refine easy_cons ?_ (unsign_easy (isD_easy hd))
    rw [Bool.or_eq_true] at hc
    rcases hc with e | e<;>(rw [eq_of_beq e];decide)
theorem odd_easy {t:B} {neg sgn:Bool} {d:De} (h:odd t neg sgn=some d):easy t=true:=by
 have key:∀ t ∈ ([[46,105,110,102],[46,73,110,102],[46,73,78,70],[46,110,97,110],[46,78,97,78],[46,78,65,78]]:List B),easy t=true:=by decide +kernel
 refine key t ?_
 unfold odd at h
 cases hi:isInf t with
 | true =>
  unfold isInf at hi
  simp only [Bool.or_eq_true,beq_iff_eq] at hi
  rcases hi with (e | e) | e<;>rw [e]<;>simp
 | false =>
  rw [hi] at h
  simp only at h
  cases hn:isNan t&&!sgn with
  | false=>rw [hn] at h;cases h
  | true =>
   rw [Bool.and_eq_true] at hn
   have hn:=hn.1
   unfold isNan at hn
   simp only [Bool.or_eq_true,beq_iff_eq] at hn
   rcases hn with (e | e) | e<;>rw [e]<;>simp
theorem tw_easy (l:B):easy (l.takeWhile dg)=true:=by
 refine easy_of easy_dg ?_
 induction l with
 | nil=>rfl
 | cons c l ih =>
  rw [List.takeWhile_cons]
  cases h:dg c with
  | true=>simp only [ite_true];rw [List.all_cons,h,ih];rfl
  | false=>rfl
theorem easy_tw {l:B} (h:easy (l.dropWhile dg)=true):easy l=true:=by
 have:=easy_app (tw_easy l) h
 rwa [List.takeWhile_append_dropWhile] at this
theorem fl12_easy {s:B} (h:(fl12 s).2=true):easy s=true:=by
 unfold fl12 at h
 cases ho:odd (unsign s).2 (unsign s).1 (signed s) with
 | some d=>exact unsign_easy (odd_easy ho)
 | none =>
  rw [ho] at h
  simp only at h
  cases hi:int12 s with
  | cons a b=>exact int12_easy (by rw [hi];simp)
  | nil =>
   rw [hi] at h
   simp only at h
   refine unsign_easy (easy_tw ?_)
   cases hd:(unsign s).2.dropWhile dg with
   | nil=>rfl
   | cons c l =>
    rw [hd] at h
    simp only at h
    cases hc:c==46 with
    | true =>
     rw [hc] at h
     simp only at h
     rw [eq_of_beq hc]
     refine easy_cons (by decide) (easy_tw ?_)
     cases ht:tailE true (l.dropWhile dg) with
     | none=>rw [ht] at h;cases h
     | some e=>exact tailE_easy ht
    | false =>
     rw [hc] at h
     simp only at h
     cases ht:tailE true (c :: l) with
     | none=>rw [ht] at h;cases h
     | some e=>exact tailE_easy ht
inductive Kind (v:Int) (s:B):Prop
 | str (h:plainV v s=(tStr,s)) (h0:nulls.contains s=false) (h1:(boolW v s).2=false) (h2:(intV v s).2=false) (h3:(flV v s).2=false) (h4:(v==11&&(ofT s).2)=false):Kind v s
 | null (h:plainV v s=(tNull,[])) (h0:nulls.contains s=true):Kind v s
 | bool (h:plainV v s=(tBool,boolT (boolW v s).1)) (h0:nulls.contains s=false) (h1:(boolW v s).2=true):Kind v s
 | int (h:plainV v s=(tInt,(intV v s).1)) (h0:nulls.contains s=false) (h1:(boolW v s).2=false) (h2:(intV v s).2=true):Kind v s
 | float (h:plainV v s=(tFloat,printD (flV v s).1)) (h0:nulls.contains s=false) (h1:(boolW v s).2=false) (h2:(intV v s).2=false) (h3:(flV v s).2=true):Kind v s
 | time (h:plainV v s=(tTime,(ofT s).1)) (h0:nulls.contains s=false) (h1:(boolW v s).2=false) (h2:(intV v s).2=false) (h3:(flV v s).2=false) (h4:v=11) (h5:(ofT s).2=true):Kind v s
theorem kind_of (v:Int) (s:B):Kind v s:=by
 cases h0:nulls.contains s with
 | true=>exact .null (plain_null h0) h0
 | false =>
  cases h1:(boolW v s).2 with
  | true=>exact .bool (plain_isBool h0 h1) h0 h1
  | false =>
   cases h2:(intV v s).2 with
   | true=>exact .int (plain_isInt h0 h1 h2) h0 h1 h2
   | false =>
    cases h3:(flV v s).2 with
    | true=>exact .float (plain_isFloat h0 h1 h2 h3) h0 h1 h2 h3
    | false =>
     cases h4:v==11&&(ofT s).2 with
     | true =>
      have h5:=h4
      rw [Bool.and_eq_true] at h5
      exact .time (plain_isTime h0 h1 h2 h3 h4) h0 h1 h2 h3 (eq_of_beq h5.1) h5.2
     | false=>exact .str (plain_isStr h0 h1 h2 h3 h4) h0 h1 h2 h3 h4
theorem bool12_11 {s:B} (h:(boolW 12 s).2=true):(boolW 11 s).2=true:=by
 unfold boolW at h ⊢
 cases h1:yes12.contains s with
 | true=>rfl
 | false =>
  cases h2:no12.contains s with
  | true=>rfl
  | false=>rw [h1,h2] at h;cases h
theorem quote_easy {s:B} (h:plainV 11 s=(tStr,s)) (hne:plainV 12 s ≠ (tStr,s)):easy s=true∧((plainV 12 s).1=tInt∨(plainV 12 s).1=tFloat):=by
 have h0:nulls.contains s=false:=by
  cases e:nulls.contains s with
  | false=>rfl
  | true =>
   rw [plain_null e] at h
   have:=congrArg Prod.fst h
   exact absurd this (show ¬ tNull=tStr by decide)
 have h1:(boolW 11 s).2=false:=by
  cases e:(boolW 11 s).2 with
  | false=>rfl
  | true =>
   rw [plain_isBool h0 e] at h
   have:=congrArg Prod.fst h
   exact absurd this (show ¬ tBool=tStr by decide)
 cases kind_of 12 s with
 | str h=>exact absurd h hne
 | null h e=>rw [h0] at e;cases e
 | bool h a e=>rw [bool12_11 e] at h1;cases h1
 | int h a b c =>
  have:int12 s ≠ []:=by
   have e:(intV 12 s).2=(!(int12 s==[])):=rfl
   rw [e] at c
   simpa using c
  exact ⟨int12_easy this,.inl (by rw [h])⟩
 | float h a b c d=>exact ⟨fl12_easy d,.inr (by rw [h])⟩
 | time h a b c d e=>exact absurd e (by decide)
def bareV (t x s:B):Int × B:=bif t==tStr then (1,quoteT s) else bif t==tTime then (2,tagT) else (3,x)
def decideV (plain:Bool) (tag s:B):(Int × B) × Bool:=
 bif !(buildV 11 tag s plain).2 then ((0,[]),false)
 else bif (buildV 12 tag s plain).2&&((buildV 11 tag s plain).1==(buildV 12 tag s plain).1) then ((0,[]),true)
 else bif tag==[] then (bareV (buildV 11 tag s plain).1.1 (buildV 11 tag s plain).1.2 s,true)
 else bif (buildV 11 tag s plain).1.1==tNull then ((3,[110,117,108,108]),true) else ((3,(buildV 11 tag s plain).1.2),true)
theorem bare_case {s:B} (h:plainV 11 s ≠ plainV 12 s):(plainV 11 s=(tStr,s)∧easy s=true)∨(plainV 11 s).1=tTime∨((plainV 11 s).1=tBool∨(plainV 11 s).1=tInt∨(plainV 11 s).1=tFloat):=by
 cases kind_of 11 s with
 | str e=>exact .inl ⟨e,(quote_easy e (fun e2=>h (by rw [e,e2]))).1⟩
 | null e e0=>exact absurd (by rw [e,plain_null e0]) h
 | bool e=>exact .inr (.inr (.inl (by rw [e])))
 | int e=>exact .inr (.inr (.inr (.inl (by rw [e]))))
 | float e=>exact .inr (.inr (.inr (.inr (by rw [e]))))
 | time e=>exact .inr (.inl (by rw [e]))
theorem build_len2 {v:Int} {t s:B} {p:Bool} (ht:t.length≤10000) (hs:s.length≤10000):(buildV v t s p).1.1.length≤500000∧(buildV v t s p).1.2.length≤500000:=by
 have h1:=plain_tag_len v s
 have h2:=plainV_len v s
 have hstr:tStr.length≤40:=by decide
 unfold buildV
 cases t==[]&&p with
 | true=>simp only [cond_true];omega
 | false =>
  simp only [cond_false]
  cases t==[] || t==[33] || t==tStr with
  | true=>simp only [cond_true];omega
  | false =>
   simp only [cond_false]
   cases isColl t with
   | true=>simp
   | false =>
    simp only [cond_false]
    cases hn:needs t with
    | false=>simp only [cond_false];omega
    | true =>
     have:=typed_len (v:=v) (s:=s) hn
     simp only [cond_true]
     cases (typedB v t s).2 with
     | true=>simp only [cond_true];omega
     | false=>simp
end Go.Proofs.YtffmgholjdfcnaaGreatDoor
