/- A part of the proof; it holds the texts Rle Rlf Rli Rlg Rlh Rlj Rlk (names and blanks shortened). -/
import Derived.Test.YteamjdmhdfjopaaGreatDoorC24
namespace Go.Proofs.YteamjdmhdfjopaaGreatDoor
open Go.RowKit
set_option maxRecDepth 100000
set_option maxHeartbeats 8000000
set_option linter.unusedVariables false
set_option linter.unusedSimpArgs false
set_option linter.unnecessarySimpa false
def J8 (p:Ts×Ts):List Ti:=tk 6 YC::(p.1.toks []++(tk 6 Yaw::p.2.toks []))
def Ss.toks:Ss->List Ti
 |.nil=>[]
 |.cons l t r s k rest=>l.toks []++(t.flatMap J8++((if k.len=0 then tk 6 sEq::(r.toks []++[tk 6 Ja])
   else tk 6 YC::(s.toks []++(tk 6 Yaw::tk 6 YQ::(Ss.toks k++[tk 6 sEnd,tk 6 Ja]))))++Ss.toks rest))
def Beg (l:List Ti):Prop:=∃x r,l=x::r/\(x.kind=6->x.text=Yar\/x.text=JW\/x.text=YC\/x.text=sEq)
theorem Ts.toks_beg:∀(T:Ts) (pre:List UInt8),T.toks pre=[]\/Beg (T.toks pre)
 |
  .nil,pre=>by
  unfold Ts.toks;split
  ·exact .inl rfl
  ·exact .inr ⟨_,_,rfl,fun q=>by cases q⟩
 |
  .cons k t kids rest,pre=>by
  unfold Ts.toks;by_cases h1:k=1
  ·rw[if_pos h1]; exact Ts.toks_beg rest _
  ·rw[if_neg h1];refine .inr ?_;by_cases hp:pre=[]
   ·rw[if_pos hp,List.nil_append];by_cases h4:k=4
    ·rw[if_pos h4]; exact⟨_,_,rfl,fun _=>.inl rfl⟩
    ·rw[if_neg h4];by_cases h8:k=8
     ·rw[if_pos h8]; exact⟨_,_,rfl,fun _=>.inr (.inl rfl)⟩
     ·rw[if_neg h8];refine⟨_,_,rfl,fun q=>?_⟩;unfold YcP at q;split at q
      ·split at q<;>cases q
      ·split at q<;>cases q
   ·rw[if_neg hp]; exact⟨_,_,rfl,fun q=>by cases q⟩
theorem Beg.app {a b:List Ti}(h:Beg a):Beg (a++b):=by
 obtain⟨x,r,rfl,h⟩:=h;exact⟨x,r++b,rfl,h⟩
theorem YpT {a b:List Ti}(h:a=[]\/Beg a)(hb:Beg b):Beg (a++b):=by
 rcases h with rfl | h
 ·exact hb
 ·exact h.app
theorem Beg.cons_sign {s:ByteArray}{r:List Ti}(h:s=Yar\/s=JW\/s=YC\/s=sEq):Beg (tk 6 s::r):=⟨_,_,rfl,fun _=>h⟩
theorem Ss.toks_beg:∀S:Ss,¬S= .nil->Beg S.toks
 |.nil,h=>absurd rfl h
 |
  .cons l t r s k rest,_=>by
  unfold Ss.toks;refine YpT (l.toks_beg []) ?_;cases t with
  |
   nil=>
   rw[List.flatMap_nil,List.nil_append];split
   ·exact .cons_sign (.inr (.inr (.inr rfl)))
   ·exact .cons_sign (.inr (.inr (.inl rfl)))
  |cons x t=>exact .cons_sign (.inr (.inr (.inl rfl)))
theorem YdZ {L:List Tk}{i:Nat}{l:List Ti}(h:Beg l)(ht:YV L i l){s:ByteArray}(hs:¬s=Yar/\¬s=JW/\¬s=YC/\¬s=sEq):isN L i 6 s=false:=by
 obtain⟨x,r,rfl,h⟩:=h;refine Yfd ht.1 fun q=>?_;obtain⟨h1,h2⟩:=q;rcases h h1 with e | e | e | e
 ·exact hs.1 (h2.symm.trans e)
 ·exact hs.2.1 (h2.symm.trans e)
 ·exact hs.2.2.1 (h2.symm.trans e)
 ·exact hs.2.2.2 (h2.symm.trans e)
def Ends (s:ByteArray):Prop:=¬s=Yar/\¬s=JW
theorem YeL {L:List Tk}{i:Nat}{s:ByteArray}{r:List Ti}(h:YV L i (tk 6 s::r))(hs:Ends s):Yhq L i:=YbX h.1 (.inl rfl) hs.1 hs.2
theorem YfV {L:List Tk}{en blocks:Nat}{left:Ts}{x:ByteArray}(hx:x=YC\/x=sEq){after:List Ti}:∀(ts done:List (Ts×Ts)) (n i:Nat),J5 ts=0->i<=L.length->YV L i (ts.flatMap J8++tk 6 x::after)->ts.length<n->
 Y9 L en n blocks i left done=Y9 L en (n - ts.length) blocks (i+(ts.flatMap J8).length) left (done++ts)
 |[],done,n,i,_,_,_,_=>by simp
 |
  p::ts,done,n,i,hc,hi,ht,hn=>by
  obtain⟨hc1,hc2⟩:=Ye.1 hc;obtain⟨he,hp⟩:=Ye.1 hc1;obtain⟨n,rfl⟩:∃m,n=m+1:=⟨n - 1,by omega⟩;have e:(p::ts).flatMap J8++tk 6 x::after=tk 6 YC::(p.1.toks []++(tk 6 Yaw::(p.2.toks []++(ts.flatMap J8++tk 6 x::after)))):=by
   simp[J8]
  rw[e] at ht;have hlt:=(List.getElem?_eq_some_iff.1 ht.1.choose_spec).1;obtain⟨t1,t2⟩:=YV.app.1 ht.2;have hl1:=t1.lt hlt;obtain⟨t3,t4⟩:_/\YV L _ (p.2.toks []++(ts.flatMap J8++tk 6 x::after)):=t2;have hl2:=(List.getElem?_eq_some_iff.1 t3.choose_spec).1;obtain⟨t5,t6⟩:=YV.app.1 t4;have hl3:=t5.lt hl2;have hx4:x=Yar\/x=JW\/x=YC\/x=sEq:=by rcases hx with h | h<;>simp[h]
  have hbeg:Beg (ts.flatMap J8++tk 6 x::after):=by
   cases ts with
   |nil=>exact .cons_sign hx4
   |cons y ts=>exact .cons_sign (.inr (.inr (.inl rfl)))
  have hstop:Yhq L (i+1+(p.1.toks []).length+1+(p.2.toks []).length):=by
   cases ts with
   |nil=>exact YeL t6 (by rcases hx with h | h<;>subst h<;>exact⟨by decide,by decide⟩)
   |cons y ts=>exact YeL (s:=YC) t6 ⟨by decide,by decide⟩
  rw[Y9,if_pos (Ybw (k:=6) (t:=YC) ht.1),Ycd (pat:=false) he hlt t1 (YbX t3 (.inl rfl) Zd Zd)];show((YG L en (i+1+(p.1.toks []).length) Yaw).bind fun _ k=>_)=_;rw[YaP (s:=Yaw) t3];show(if isN L (i+1+(p.1.toks []).length+1) 6 YQ=true then _ else _)=_;rw[YdZ (YpT (p.2.toks_beg []) hbeg) t4 ⟨by decide,by decide,by decide,by decide⟩,if_neg Zd,Ycd (pat:=true) hp hl2 t5 hstop];show Y9 L en n blocks (i+1+(p.1.toks []).length+1+(p.2.toks []).length) left (done++[(p.1,p.2)])=_;rw[YfV hx ts (done++[(p.1,p.2)]) n _ hc2 hl3 t6 (by simp at hn; omega)];have e2:i+1+(p.1.toks []).length+1+(p.2.toks []).length+(ts.flatMap J8).length=i+((p::ts).flatMap J8).length:=by
   simp[J8]; omega
  rw[e2];simp
theorem Ycm {blocks:Nat}{l r s:Ts}{t:List (Ts×Ts)}{k rest:Ss}(h:(Ss.cons l t r s k rest).form blocks=0):
 Yy 7 l=0/\J5 t=0/\(k.len=0->s= .nil/\Yy 8 r=0)/\(¬k.len=0->r= .nil/\blocks<6/\Yy 8 s=0/\k.form (blocks+1)=0)/\rest.form blocks=0:=by
 unfold Ss.form at h;obtain⟨h1,h2⟩:=Ye.1 h;obtain⟨h3,h4⟩:=Ye.1 h1;obtain⟨h5,h6⟩:=Ye.1 h4;refine⟨h3,h5,fun q=>?_,fun q=>?_,h2⟩
 ·rw[if_pos q] at h6;obtain⟨h7,h8⟩:=Ye.1 h6;refine⟨(Ts.len_zero _).1 ?_,h8⟩;by_cases z:s.len=0
  ·exact z
  ·rw[if_neg z] at h7; cases h7
 ·rw[if_neg q] at h6;obtain⟨h7,h8⟩:=Ye.1 h6;obtain⟨h9,h10⟩:=Ye.1 h8;obtain⟨h11,h12⟩:=Ye.1 h10;refine⟨(Ts.len_zero _).1 ?_,?_,h11,h12⟩
  ·by_cases z:r.len=0
   ·exact z
   ·rw[if_neg z] at h7; cases h7
  ·by_cases z:blocks<6
   ·exact z
   ·rw[if_neg z] at h9; cases h9
theorem Ye6 (L:List Tk)(en:Nat):∀(S:Ss) (n blocks i:Nat) (acc:Ss),¬S= .nil->S.form blocks=0->i<=L.length->YV L i (S.toks++[tk 6 sEnd])->S.toks.length<n->
 JD L en n blocks i acc= .ok (acc.app S) (i+S.toks.length+1)
 |.nil,_,_,_,_,h,_,_,_,_=>absurd rfl h
 |
  .cons l t r s k rest,n,blocks,i,acc,_,hf,hi,ht,hn=>by
  obtain⟨f1,f2,f3,f4,f5⟩:=Ycm hf;obtain⟨n,rfl⟩:∃m,n=m+1:=⟨n - 1,by omega⟩;have tlen:∀t:List (Ts×Ts),2*t.length<=(t.flatMap J8).length:=by
   intro t;induction t with
   |nil=>simp
   |cons x t ih=>
     rw[List.flatMap_cons,List.length_append,List.length_cons]; have:2<=(J8 x).length:=by simp[J8]; omega
     omega
  have htl:=tlen t;have key:∀(X:List Ti) (x:ByteArray) (X':List Ti),X=tk 6 x::X'->1<=X'.length->(x=YC\/x=sEq)->Ss.toks (.cons l t r s k rest)++[tk 6 sEnd]=l.toks []++(t.flatMap J8++X)->
   ((
     Jo L en true i).bind fun left j=>(Y9 L en n blocks j left []).bind fun s k=>
     if isN L k 6 Ja=true then
      if isN L (k+1) 6 sEnd=true then .ok (acc.app s) (k+2) else JD L en n blocks (k+1) (acc.app s)
     else if isN L k 6 sEnd=true then .ok (acc.app s) (k+1) else JA L en k 50)=
   ((
     Y9 L en (n - t.length) blocks (i+(l.toks []).length+(t.flatMap J8).length) l t).bind fun s k=>
     if isN L k 6 Ja=true then
      if isN L (k+1) 6 sEnd=true then .ok (acc.app s) (k+2) else JD L en n blocks (k+1) (acc.app s)
     else if isN L k 6 sEnd=true then .ok (acc.app s) (k+1) else JA L en k 50)/\
   YV L (i+(l.toks []).length+(t.flatMap J8).length) X/\i+(l.toks []).length+(t.flatMap J8).length<=L.length:=by
   intro X x X' hX hX1 hx e;rw[e] at ht;have hlen:(Ss.toks (.cons l t r s k rest)).length+1=(l.toks []).length+((t.flatMap J8).length+X.length):=by
    have:=congrArg List.length e;simpa using this
   obtain⟨t1,t2⟩:=YV.app.1 ht;have hl1:=t1.lt hi;have hst:Yhq L (i+(l.toks []).length):=by
    subst hX;cases t with
    |nil=>exact YeL t2 (by rcases hx with h | h<;>subst h<;>exact⟨by decide,by decide⟩)
    |cons y ts=>exact YeL (s:=YC) t2 ⟨by decide,by decide⟩
   obtain⟨t3,t4⟩:=YV.app.1 t2;refine⟨?_,t4,t3.lt hl1⟩;rw[Ycd (pat:=true) f1 hi t1 hst];show((Y9 L en n blocks (i+(l.toks []).length) l []).bind fun s k=>_)=_;subst hX;rw[YfV hx t [] n _ f2 hl1 t2 (by rw[List.length_cons] at hlen; omega),List.nil_append]
  rw[JD];have tail:∀(q:Nat) (Y:List Ti),YV L q (tk 6 Ja::(Ss.toks rest++[tk 6 sEnd]))->(Ss.toks rest).length<n->
   (if isN L q 6 Ja=true then
     if isN L (q+1) 6 sEnd=true then Rd.ok (acc.app (.cons l t r s k .nil)) (q+2) else JD L en n blocks (q+1) (acc.app (.cons l t r s k .nil))
   else if isN L q 6 sEnd=true then .ok (acc.app (.cons l t r s k .nil)) (q+1) else JA L en q 50)= .ok (acc.app (.cons l t r s k rest)) (q+1+(Ss.toks rest).length+1):=by
   intro q _ hq hnr;have hlt:=(List.getElem?_eq_some_iff.1 hq.1.choose_spec).1;rw[if_pos (Ybw (k:=6) (t:=Ja) hq.1)];by_cases hr:rest= .nil
   ·subst hr;have h2:YV L (q+1) [tk 6 sEnd]:=hq.2;rw[if_pos (Ybw (k:=6) (t:=sEnd) h2.1)];rfl
   ·have hb:=Ss.toks_beg rest hr;rw[YdZ hb.app hq.2 ⟨by decide,by decide,by decide,by decide⟩,if_neg Zd,Ye6 L en rest n blocks (q+1) _ hr f5 hlt hq.2 hnr,Ss.app_assoc];rfl
  by_cases hk:k.len=0
  ·obtain⟨g1,g2⟩:=f3 hk;have hk0:k= .nil:=(Ss.len_zero k).1 hk;subst hk0; subst g1;have e:Ss.toks (.cons l t r .nil .nil rest)++[tk 6 sEnd]=l.toks []++(t.flatMap J8++(tk 6 sEq::(r.toks []++(tk 6 Ja::(Ss.toks rest++[tk 6 sEnd]))))):=by
    rw[Ss.toks,if_pos hk]; simp
   have hlen:(Ss.toks (.cons l t r .nil .nil rest)).length=(l.toks []).length+((t.flatMap J8).length+(1+(r.toks []).length+1+(Ss.toks rest).length)):=by
    have:=congrArg List.length e;simp only[List.length_append,List.length_cons,List.length_nil] at this;omega
   obtain⟨q1,q2,q3⟩:=key _ sEq _ rfl (by simp; omega) (.inr rfl) e;rw[q1,hlen];clear q1 e;generalize hj:i+(l.toks []).length+(t.flatMap J8).length=j at q2 q3⊢;obtain⟨u1,u2⟩:=q2;have hlt:=(List.getElem?_eq_some_iff.1 u1.choose_spec).1;obtain⟨u3,u4⟩:=YV.app.1 u2;have hl2:=u3.lt hlt;obtain⟨n1,hn1⟩:∃m,n - t.length=m+1:=⟨n - t.length - 1,by omega⟩;rw[hn1,Y9,Yfd u1 Zd,if_neg Zd,YaP (s:=sEq) u1];show(((Jo L en false (j+1)).bind fun r k=>_).bind _)=_;rw[Ycd (pat:=false) g2 hlt u3 (YeL u4 ⟨by decide,by decide⟩)];have:=tail (j+1+(r.toks []).length) [] u4 Zo;refine this.trans ?_;congr 1
   omega
  ·obtain⟨g1,g2,g3,g4⟩:=f4 hk;have hk0:¬k= .nil:=fun q=>hk ((Ss.len_zero k).2 q);subst g1;have e:Ss.toks (.cons l t .nil s k rest)++[tk 6 sEnd]=l.toks []++(t.flatMap J8++(tk 6 YC::(s.toks []++(tk 6 Yaw::tk 6 YQ::(k.toks++(tk 6 sEnd::(tk 6 Ja::(Ss.toks rest++[tk 6 sEnd])))))))):=by
    rw[Ss.toks,if_neg hk]; simp
   have hlen:(Ss.toks (.cons l t .nil s k rest)).length=(l.toks []).length+((t.flatMap J8).length+(1+(s.toks []).length+2+k.toks.length+2+(Ss.toks rest).length)):=by
    have:=congrArg List.length e;simp only[List.length_append,List.length_cons,List.length_nil] at this;omega
   obtain⟨q1,q2,q3⟩:=key _ YC _ rfl (by simp; omega) (.inl rfl) e;rw[q1,hlen];clear q1 e;generalize hj:i+(l.toks []).length+(t.flatMap J8).length=j at q2 q3⊢;obtain⟨u1,u2⟩:=q2;have hlt:=(List.getElem?_eq_some_iff.1 u1.choose_spec).1;obtain⟨u3,u4⟩:=YV.app.1 u2;have hl2:=u3.lt hlt;obtain⟨u5,u6,u7⟩:=u4;have hl3:=(List.getElem?_eq_some_iff.1 u6.choose_spec).1;obtain⟨u8,u9⟩:=YV.app.1 u7;have hl4:=u8.lt hl3;obtain⟨n1,hn1⟩:∃m,n - t.length=m+1+1:=⟨n - t.length - 1 - 1,by omega⟩;rw[hn1,Y9,if_pos (Ybw (k:=6) (t:=YC) u1),Ycd (pat:=false) g3 hlt u3 (YbX u5 (.inl rfl) Zd Zd)];show(((YG L en (j+1+(s.toks []).length) Yaw).bind fun _ k=>_).bind _)=_;rw[YaP (s:=Yaw) u5];show Rd.bind (if isN L (j+1+(s.toks []).length+1) 6 YQ=true then _ else _) _=_;rw[if_pos (Ybw (k:=6) (t:=YQ) u6),if_neg Zo,YA];have hb:=Ss.toks_beg k hk0;rw[YdZ hb u8 ⟨by decide,by decide,by decide,by decide⟩,YdZ hb u8 ⟨by decide,by decide,by decide,by decide⟩,if_neg Zd];have hmb:=Ye6 L en k n1 (blocks+1) (j+1+(s.toks []).length+1+1) .nil hk0 g4 hl3 (YV.app.2 ⟨u8,u9.1,trivial⟩) Zo;rw[hmb];have:=tail (j+1+(s.toks []).length+1+1+k.toks.length+1) [] u9.2 Zo;refine this.trans ?_;congr 1
   omega
def YcU:List ByteArray->List Ti
 |[]=>[]
 |[x]=>[tk 3 x]
 |x::y::l=>tk 3 x::tk 6 YC::YcU (y::l)
def fnT (f:Fn):List Ti:=(if f.entry=true then [tk 7 YaQ] else [])++(tk 3 f.name::tk 6 YQ::(f.sents.toks++[tk 6 sEnd]))
def Md.toks (m:Md):List Ti:=(if m.externs.length=0 then [] else tk 7 Yas::(YcU m.externs++[tk 6 Ja]))++m.funcs.flatMap fnT
theorem named_ok {s:ByteArray}(h:J6 s=0):Yh 40 s=true:=by
 unfold J6 at h;by_cases q:Yh 40 s=true
 ·exact q
 ·rw[if_neg q] at h; cases h
theorem YkE (L:List Tk)(en:Nat):∀(l:List ByteArray) (n i:Nat) (acc:List ByteArray),¬l=[]->JE l=0->YV L i (YcU l++[tk 6 Ja])->l.length<=n->extN L en n i acc= .ok (acc++l) (i+(YcU l).length)
 |[],_,_,_,h,_,_,_=>absurd rfl h
 |
  [x],n,i,acc,_,hc,ht,hn=>by
  obtain⟨n,rfl⟩:∃m,n=m+1:=⟨n - 1,by simp at hn; omega⟩;have h1:=named_ok (Ye.1 hc).1;have ht:YV L i [tk 3 x,tk 6 Ja]:=ht;obtain⟨t1,t2,_⟩:=ht;rw[extN,Yde (s:=x) t1 (Yb7 h1)];show(if isN L (i+1) 6 YC=true then _ else _)=_;rw[Yfd t2 Zd,if_neg Zd];rfl
 |
  x::y::l,n,i,acc,_,hc,ht,hn=>by
  obtain⟨n,rfl⟩:∃m,n=m+1:=⟨n - 1,by simp at hn; omega⟩;have h1:=named_ok (Ye.1 hc).1;have ht:YV L i (tk 3 x::tk 6 YC::(YcU (y::l)++[tk 6 Ja])):=ht;obtain⟨t1,t2,t3⟩:=ht;rw[extN,Yde (s:=x) t1 (Yb7 h1)];show(if isN L (i+1) 6 YC=true then _ else _)=_;rw[if_pos (Ybw (k:=6) (t:=YC) t2),YkE L en (y::l) n (i+1+1) (acc++[x]) Zs (Ye.1 hc).2 t3 (by simp at hn⊢; omega)];have e:i+1+1+(YcU (y::l)).length=i+(YcU (x::y::l)).length:=by simp[YcU]; omega
  rw[e]; simp
theorem Yqt {L:List Tk}{en i:Nat}{f:Fn}{m:Md}(h1:Yh 40 f.name=true)(h2:¬f.sents= .nil)(h3:f.sents.form 0=0)(hi:i<=L.length)(ht:YV L i (fnT f)):
 JY L en i m= .ok ⟨m.externs,m.funcs++[f]⟩ (i+(fnT f).length):=by
 have body:∀(j:Nat) (b:Bool),b=f.entry->j<=L.length->YV L j (tk 3 f.name::tk 6 YQ::(f.sents.toks++[tk 6 sEnd]))->
  ((Jn L en j).bind fun nm j=>(YG L en j YQ).bind fun _ k=>(YA L en (L.length+4) 0 k).bind fun x q=>.ok ⟨m.externs,m.funcs++[⟨nm,b,x⟩]⟩ q)=(.ok ⟨m.externs,m.funcs++[f]⟩ (j+1+1+f.sents.toks.length+1):Rd Md):=by
  intro j b hb hj ht;obtain⟨t1,t2,t3⟩:=ht;have hl:=(List.getElem?_eq_some_iff.1 t2.choose_spec).1;rw[Yde (s:=f.name) t1 (Yb7 h1)];show(YG L en (j+1) YQ).bind _=_;rw[YaP (s:=YQ) t2];show Rd.bind (YA L en (L.length+4) 0 (j+1+1)) _=_;have hb2:=Ss.toks_beg f.sents h2;have hle:=t3.lt hl;rw[List.length_append] at hle;rw[YA,YdZ hb2.app t3 ⟨by decide,by decide,by decide,by decide⟩,YdZ hb2.app t3 ⟨by decide,by decide,by decide,by decide⟩,if_neg Zd,Ye6 L en f.sents _ 0 (j+1+1) .nil h2 h3 hl t3 (by simp at hle; omega),hb];rfl
 unfold fnT at ht⊢;unfold JY;cases he:f.entry with
 |
  true=>
  rw[he,if_pos rfl] at ht;obtain⟨t1,t2⟩:=ht;have hl:=(List.getElem?_eq_some_iff.1 t1.choose_spec).1;rw[Yfd t1 Zd,if_neg Zd,Ybw (k:=7) (t:=YaQ) t1,if_pos rfl];rw[body (i+1) true he.symm hl t2];congr 1
  simp; omega
 |
  false=>
  rw[he,if_neg Zd] at ht;obtain⟨t1,t2⟩:=ht;have q:∀s,isN L i 7 s=false:=fun s=>Yfd (k':=3) (t':=f.name) t1 (fun z=>absurd z.1 Zd);rw[q,if_neg Zd,q,if_neg Zd];rw[body i false he.symm hi ⟨t1,t2⟩];congr 1
  simp; omega
theorem Ycl {f:Fn}{l:List Fn}(h:Jw (f::l)=0):Yh 40 f.name=true/\¬f.sents= .nil/\f.sents.form 0=0/\Jw l=0:=by
 obtain⟨h1,h2⟩:=Ye.1 h;obtain⟨h3,h4⟩:=Ye.1 h1;obtain⟨h5,h6⟩:=Ye.1 h2;refine⟨named_ok h3,fun q=>?_,h5,h6⟩;rw[q] at h4; cases h4
theorem YdQ (L:List Tk)(en:Nat):∀(fs:List Fn) (n i:Nat) (m:Md),Jw fs=0->YV L i (fs.flatMap fnT)->i+(fs.flatMap fnT).length=L.length->fs.length<n->Y2 L en n i m= .ok ⟨m.externs,m.funcs++fs⟩ L.length
 |
  [],n,i,m,_,_,hl,hn=>by
  obtain⟨n,rfl⟩:∃q,n=q+1:=⟨n - 1,by simp at hn; omega⟩;have:i=L.length:=by simpa using hl
  rw[Y2,if_neg Zo,List.append_nil,this]
 |
  f::fs,n,i,m,hc,ht,hl,hn=>by
  obtain⟨n,rfl⟩:∃q,n=q+1:=⟨n - 1,by simp at hn; omega⟩;obtain⟨h1,h2,h3,h4⟩:=Ycl hc;rw[List.flatMap_cons] at ht hl;obtain⟨t1,t2⟩:=YV.app.1 ht;rw[List.length_append] at hl;have hp:2<=(fnT f).length:=by unfold fnT; simp; omega
  rw[Y2,if_pos Zo,Yqt h1 h2 h3 Zo t1];show Y2 L en n (i+(fnT f).length) ⟨m.externs,m.funcs++[f]⟩=_;rw[YdQ L en fs n _ _ h4 t2 Zo (by simp at hn; omega)];simp
theorem YnF:∀l:List ByteArray,l.length<=(YcU l).length
 |[]=>Nat.le_refl _
 |[x]=>Nat.le_refl _
 |x::y::l=>by have:=YnF (y::l); simp only[YcU,List.length_cons] at this⊢; omega
theorem YmG {s:ByteArray}{m:Md}{L:List Tk}{sp:List (Nat×Nat)}(hm:Yat m=0)(hs:Jr s= .ok L sp)(h:L.map (fun x=>(x.kind,x.text))=m.toks.map fun x=>(x.kind,x.text)):readB s= .ok m L.length:=by
 obtain⟨h1,h2⟩:=Jz.1 hm;have hlen:L.length=m.toks.length:=by simpa using congrArg List.length h
 have ht:YV L 0 m.toks:=YjR h;unfold readB;rw[hs];dsimp only;unfold Md.toks at ht hlen;have fl:∀fs:List Fn,fs.length<=(fs.flatMap fnT).length:=by
  intro fs;induction fs with
  |nil=>simp
  |
   cons f fs ih=>
   have hp:2<=(fnT f).length:=by unfold fnT; simp; omega
   rw[List.flatMap_cons,List.length_append,List.length_cons]; omega
 have hfl:=fl m.funcs;by_cases he:m.externs.length=0
 ·rw[if_pos he,List.nil_append] at ht hlen;have e0:m.externs=[]:=List.length_eq_zero_iff.1 he;rw[YdQ L s.size m.funcs (L.length+1) 0 ⟨[],[]⟩ h2 ht Zo Zo];obtain⟨a,b⟩:=m;dsimp only at e0⊢;rw[e0]; rfl
 ·rw[if_neg he] at ht hlen;have hne:¬m.externs=[]:=fun q=>he (by rw[q]; rfl);rw[List.cons_append,List.append_assoc] at ht;obtain⟨t1,t2⟩:=ht;have t2':YV L (0+1) ((YcU m.externs++[tk 6 Ja])++m.funcs.flatMap fnT):=by rw[List.append_assoc]; exact t2
  obtain⟨t3,t4⟩:=YV.app.1 t2';obtain⟨_,t5⟩:=YV.app.1 t3;have hel:=YnF m.externs;simp only[List.length_cons,List.length_append,List.length_nil] at hlen;rw[Y2,if_pos Zo,JY,if_pos (Ybw (k:=7) (t:=Yas) t1),YkE L s.size m.externs (L.length+1) (0+1) [] hne h1 t3 Zo];show Rd.bind (Rd.bind (YG L s.size (0+1+(YcU m.externs).length) Ja) _) _=_;rw[YaP (s:=Ja) t5.1];show Y2 L s.size L.length (0+1+(YcU m.externs).length+1) ⟨[]++m.externs,[]⟩=_;rw[List.length_append,List.length_singleton,<-Nat.add_assoc] at t4;rw[YdQ L s.size m.funcs L.length _ _ h2 t4 Zo Zo];rfl
theorem Rd.ok_bind {α β:Type}{x:α}{i:Nat}{f:α->Nat->Rd β}:(Rd.ok x i).bind f=f x i:=rfl
def Yz (L L':List Tk):Prop:=L.map (fun x=>(x.kind,x.text))=L'.map fun x=>(x.kind,x.text)
section
variable {L L':List Tk}{en en':Nat}
theorem Yz.len (h:Yz L L'):L.length=L'.length:=by simpa using congrArg List.length h
theorem Yz.get (h:Yz L L'){i:Nat}{t:Tk}(ht:L[i]? =some t):∃a,L'[i]? =some ⟨t.kind,t.text,a⟩:=by
 have:=congrArg (·[i]?) h;simp only[List.getElem?_map,ht,Option.map_some] at this;cases q:L'[i]? with
 |none=>rw[q] at this; cases this
 |
  some u=>
  rw[q] at this;simp only[Option.map_some,Option.some.injEq,Prod.mk.injEq] at this;obtain⟨k,x,a⟩:=u;exact⟨a,by rw[this.1,this.2]⟩
theorem Yz.none (h:Yz L L'){i:Nat}(ht:L[i]? =none):L'[i]? =none:=by
 rw[List.getElem?_eq_none_iff] at ht⊢;rw[<-h.len]; exact ht
theorem Yz.isQ (h:Yz L L')(i:Nat)(k:Int)(t:ByteArray):isN L' i k t=isN L i k t:=by
 unfold isN;cases q:L[i]? with
 |none=>rw[h.none q]
 |some x=>obtain⟨a,e⟩:=h.get q; rw[e]
theorem Yz.must (h:Yz L L'){i k:Nat}{s:ByteArray}{u:Unit}(hm:YG L en i s= .ok u k):YG L' en' i s= .ok u k:=by
 unfold YG at hm⊢;rw[h.isQ];split at hm
 ·rename_i q; rw[if_pos q]; cases hm; rfl
 ·cases hm
theorem Yz.name (h:Yz L L'){i k:Nat}{s:ByteArray}(hm:Jn L en i= .ok s k):Jn L' en' i= .ok s k:=by
 obtain⟨t,h1,h2,h3,rfl,rfl⟩:=Yg8 hm;obtain⟨a,e⟩:=h.get h1;unfold Jn;rw[e];dsimp only;rw[if_pos ⟨h2,h3⟩]
theorem Yz.terms (h:Yz L L')(pat:Bool):∀(n deep i:Nat) (acc ts:Ts) (j:Nat),Yc L en pat n deep i acc= .ok ts j->Yc L' en' pat n deep i acc= .ok ts j
 |0,_,_,_,_,_,hq=>hq
 |
  n+1,deep,i,acc,ts,j,hq=>by
  unfold Yc at hq⊢;cases q:L[i]? with
  |none=>rw[q] at hq; rw[h.none q]; exact hq
  |
   some t=>
   obtain⟨a,e⟩:=h.get q;rw[q] at hq;rw[e];dsimp only at hq⊢;by_cases k1:t.kind=1
   ·rw[if_pos k1] at hq⊢; exact Yz.terms h pat n _ _ _ _ _ hq
   ·rw[if_neg k1] at hq⊢;by_cases k2:t.kind=2\/t.kind=3
    ·rw[if_pos k2] at hq⊢; exact Yz.terms h pat n _ _ _ _ _ hq
    ·rw[if_neg k2] at hq⊢;by_cases k4:t.kind=4
     ·rw[if_pos k4] at hq⊢; exact Yz.terms h pat n _ _ _ _ _ hq
     ·rw[if_neg k4] at hq⊢;by_cases k5:t.kind=5
      ·rw[if_pos k5] at hq⊢; exact Yz.terms h pat n _ _ _ _ _ hq
      ·rw[if_neg k5] at hq⊢;by_cases k6:t.kind=6/\t.text=Yar
       ·rw[if_pos k6] at hq⊢;by_cases kd:100<=deep
        ·rw[if_pos kd] at hq; cases hq
        ·rw[if_neg kd] at hq⊢;obtain⟨kids,j1,g1,hq⟩:=Rd.bind_ok hq;obtain⟨_,j2,g2,hq⟩:=Rd.bind_ok hq;rw[Yz.terms h pat n _ _ _ _ _ g1];rw[Rd.ok_bind];rw[h.must g2];exact Yz.terms h pat n _ _ _ _ _ hq
       ·rw[if_neg k6] at hq⊢;by_cases k7:t.kind=6/\t.text=JW
        ·rw[if_pos k7] at hq⊢;by_cases kp:pat=true
         ·rw[if_pos kp] at hq; cases hq
         ·rw[if_neg kp] at hq⊢;by_cases kd:100<=deep
          ·rw[if_pos kd] at hq; cases hq
          ·rw[if_neg kd] at hq⊢;obtain⟨nm,j0,g0,hq⟩:=Rd.bind_ok hq;obtain⟨kids,j1,g1,hq⟩:=Rd.bind_ok hq;obtain⟨_,j2,g2,hq⟩:=Rd.bind_ok hq;rw[h.name g0];rw[Rd.ok_bind];rw[Yz.terms h pat n _ _ _ _ _ g1];rw[Rd.ok_bind];rw[h.must g2];exact Yz.terms h pat n _ _ _ _ _ hq
        ·rw[if_neg k7] at hq⊢; exact hq
theorem Yz.expr (h:Yz L L'){pat:Bool}{i j:Nat}{ts:Ts}(hq:Jo L en pat i= .ok ts j):Jo L' en' pat i= .ok ts j:=by
 unfold Jo at hq⊢;obtain⟨l,k,g1,hq⟩:=Rd.bind_ok hq;rw[<-h.len,h.terms pat _ _ _ _ _ _ g1];rw[Rd.ok_bind];by_cases k4:4000<l.nodes
 ·rw[if_pos k4] at hq; cases hq
 ·rw[if_neg k4] at hq⊢; exact hq
mutual
theorem Yz.sent (h:Yz L L'):∀(n blocks i:Nat) (left:Ts) (tests:List (Ts×Ts)) (s:Ss) (j:Nat),Y9 L en n blocks i left tests= .ok s j->Y9 L' en' n blocks i left tests= .ok s j
 |0,_,_,_,_,_,_,hq=>by unfold Y9 at hq; cases hq
 |
  n+1,blocks,i,left,tests,s,j,hq=>by
  unfold Y9 at hq⊢;rw[h.isQ];by_cases k1:isN L i 6 YC=true
  ·rw[if_pos k1] at hq⊢;obtain⟨e,j1,g1,hq⟩:=Rd.bind_ok hq;obtain⟨_,k,g2,hq⟩:=Rd.bind_ok hq;rw[h.expr g1];rw[Rd.ok_bind];rw[h.must g2];rw[Rd.ok_bind];rw[h.isQ];by_cases k2:isN L k 6 YQ=true
   ·rw[if_pos k2] at hq⊢;by_cases k3:6<=blocks
    ·rw[if_pos k3] at hq; cases hq
    ·rw[if_neg k3] at hq⊢;obtain⟨b,m,g3,hq⟩:=Rd.bind_ok hq;rw[Yz.sents h n _ _ _ _ g3];exact hq
   ·rw[if_neg k2] at hq⊢;obtain⟨p,m,g3,hq⟩:=Rd.bind_ok hq;rw[h.expr g3];exact Yz.sent h n _ _ _ _ _ _ hq
  ·rw[if_neg k1] at hq⊢;obtain⟨_,k,g1,hq⟩:=Rd.bind_ok hq;obtain⟨r,q,g2,hq⟩:=Rd.bind_ok hq;rw[h.must g1];rw[Rd.ok_bind];rw[h.expr g2];exact hq
theorem Yz.sents (h:Yz L L'):∀(n blocks i:Nat) (s:Ss) (j:Nat),YA L en n blocks i= .ok s j->YA L' en' n blocks i= .ok s j
 |0,_,_,_,_,hq=>by unfold YA at hq; cases hq
 |
  n+1,blocks,i,s,j,hq=>by
  unfold YA at hq⊢;rw[h.isQ,h.isQ];split at hq
  ·cases hq
  ·rename_i k1
   rw[if_neg k1];exact Yz.more h n _ _ _ _ _ hq
theorem Yz.more (h:Yz L L'):∀(n blocks i:Nat) (acc s:Ss) (j:Nat),JD L en n blocks i acc= .ok s j->JD L' en' n blocks i acc= .ok s j
 |0,_,_,_,_,_,hq=>by unfold JD at hq; cases hq
 |
  n+1,blocks,i,acc,s,j,hq=>by
  unfold JD at hq⊢;obtain⟨left,j1,g1,hq⟩:=Rd.bind_ok hq;obtain⟨x,k,g2,hq⟩:=Rd.bind_ok hq;rw[h.expr g1];rw[Rd.ok_bind];rw[Yz.sent h n _ _ _ _ _ _ g2];rw[Rd.ok_bind];rw[h.isQ,h.isQ,h.isQ];by_cases k1:isN L k 6 Ja=true
  ·rw[if_pos k1] at hq⊢;by_cases k2:isN L (k+1) 6 sEnd=true
   ·rw[if_pos k2] at hq⊢; exact hq
   ·rw[if_neg k2] at hq⊢; exact Yz.more h n _ _ _ _ _ hq
  ·rw[if_neg k1] at hq⊢;by_cases k2:isN L k 6 sEnd=true
   ·rw[if_pos k2] at hq⊢; exact hq
   ·rw[if_neg k2] at hq; cases hq
end
theorem Yz.ext (h:Yz L L'):∀(n i:Nat) (acc l:List ByteArray) (j:Nat),extN L en n i acc= .ok l j->extN L' en' n i acc= .ok l j
 |0,_,_,_,_,hq=>by cases hq
 |
  n+1,i,acc,l,j,hq=>by
  unfold extN at hq⊢;obtain⟨s,k,g1,hq⟩:=Rd.bind_ok hq;rw[h.name g1];rw[Rd.ok_bind];rw[h.isQ];split at hq
  ·rename_i k1; rw[if_pos k1]; exact Yz.ext h n _ _ _ _ hq
  ·rename_i k1; rw[if_neg k1]; exact hq
theorem Yz.item (h:Yz L L'){i j:Nat}{m m':Md}(hq:JY L en i m= .ok m' j):JY L' en' i m= .ok m' j:=by
 unfold JY at hq⊢;rw[h.isQ,h.isQ,<-h.len];by_cases k1:isN L i 7 Yas=true
 ·rw[if_pos k1] at hq⊢;obtain⟨l,k,g1,hq⟩:=Rd.bind_ok hq;obtain⟨_,q,g2,hq⟩:=Rd.bind_ok hq;rw[h.ext _ _ _ _ _ g1];rw[Rd.ok_bind];rw[h.must g2];exact hq
 ·rw[if_neg k1] at hq⊢;obtain⟨nm,k,g1,hq⟩:=Rd.bind_ok hq;obtain⟨_,q,g2,hq⟩:=Rd.bind_ok hq;obtain⟨b,r,g3,hq⟩:=Rd.bind_ok hq;rw[h.name g1];rw[Rd.ok_bind];rw[h.must g2];rw[Rd.ok_bind];rw[h.sents _ _ _ _ _ g3];exact hq
theorem Yz.items (h:Yz L L'):∀(n i:Nat) (m m':Md) (j:Nat),Y2 L en n i m= .ok m' j->Y2 L' en' n i m= .ok m' j
 |0,_,_,_,_,hq=>by cases hq
 |
  n+1,i,m,m',j,hq=>by
  unfold Y2 at hq⊢;rw[<-h.len];split at hq
  ·rename_i k1
   rw[if_pos k1];obtain⟨m1,k,g1,hq⟩:=Rd.bind_ok hq;rw[h.item g1];exact Yz.items h n _ _ _ _ hq
  ·rename_i k1; rw[if_neg k1]; exact hq
end
theorem Yh7 {s s':ByteArray}{L L':List Tk}{sp sp':List (Nat×Nat)}(h1:Jr s= .ok L sp)(h2:Jr s'= .ok L' sp')(h:Yz L L'){m:Md}{j:Nat}(hr:readB s= .ok m j):readB s'= .ok m j:=by
 unfold readB at hr⊢;rw[h1] at hr;rw[h2];dsimp only at hr⊢;rw[<-h.len];exact h.items _ _ _ _ _ hr
def hTw (left:Ts)(tests:List (Ts×Ts))(right subject:Ts)(noBlock:Bool):List (List Ti):=
 left.wts []++(tests.flatMap fun p=>[tk 6 YC]::(p.1.wts []++[tk 6 Yaw]::p.2.wts []))++(if noBlock then [tk 6 sEq]::right.wts [] else [tk 6 YC]::(subject.wts []++[[tk 6 Yaw],[tk 6 YQ]]))
def YhY (ws:List (List Ti))(ends:Bool):List (List Ti):=if ends then ws.dropLast++[(ws.getLast?.getD [])++[tk 6 Ja]] else ws
def Ss.tLines (indent:Nat):Ss->List (Nat×List (List Ti))
 |.nil=>[]
 |.cons l t r s k rest=>(indent,YhY (hTw l t r s (k.len==0)) (k.len==0))::((if k.len=0 then [] else Ss.tLines (indent+2) k++[(indent,[[tk 6 sEnd,tk 6 Ja]])])++Ss.tLines indent rest)
theorem Ymw {ws:List (List Ti)}(h:¬ws=[]):(YhY ws true).flatten=ws.flatten++[tk 6 Ja]:=by
 obtain⟨a,b,rfl⟩:∃a b,ws=a++[b]:=⟨_,_,(List.dropLast_concat_getLast h).symm⟩;unfold YhY;simp
theorem Ypo (a b:List Ti):catT (a++b)=catT a++catT b:=by unfold catT; rw[List.flatMap_append]
theorem YoE (ws:List (List Ti))(ends:Bool):(YhY ws ends).map catT=YfB (ws.map catT) ends:=by
 cases ends with
 |false=>rfl
 |
  true=>
  unfold YhY YfB;rw[if_pos rfl,if_pos rfl,List.map_append,List.map_dropLast];congr 1
  rw[List.getLast?_map];cases ws.getLast? with
  |none=>rfl
  |
   some x=>
   show[catT (x++[tk 6 Ja])]=[catT x++[59]];rw[Ypo]; rfl
theorem YnA (l:Ts)(t:List (Ts×Ts))(r s:Ts)(b:Bool):¬hTw l t r s b=[]:=by
 unfold hTw;cases b<;>simp
theorem YeB (most:Int){T:Ts}(h:T.right most=true):(T.wts []).map catT=T.words:=Yc0 most T [] h
theorem Jq {most:Int}{T:Ts}(h:Yy most T=0):T.right most=true:=(Yab.1 h).2.2
theorem Yqs {l:Ts}{t:List (Ts×Ts)}{r s:Ts}{b:Bool}(hl:Yy 7 l=0)(ht:J5 t=0)(hr:b=true->Yy 8 r=0)(hs:b=false->Yy 8 s=0):(hTw l t r s b).map catT=Yc5 l t r s b:=by
 unfold hTw Yc5;rw[List.map_append,List.map_append,YeB 7 (Jq hl)];congr 1
 ·congr 1
  induction t with
  |nil=>rfl
  |
   cons p t ih=>
   obtain⟨h1,h2⟩:=Ye.1 ht;obtain⟨h3,h4⟩:=Ye.1 h1;rw[List.flatMap_cons,List.flatMap_cons,List.map_append,ih h2,List.map_cons,List.map_append,List.map_cons,YeB 8 (Jq h3),YeB 7 (Jq h4)];rfl
 ·cases b with
  |true=>rw[if_pos rfl,if_pos rfl,List.map_cons,YeB 8 (Jq (hr rfl))]; rfl
  |false=>rw[if_neg Zd,if_neg Zd,List.map_cons,List.map_append,YeB 8 (Jq (hs rfl))]; rfl
theorem Ykt (l:Ts)(t:List (Ts×Ts))(r s:Ts)(b:Bool):(hTw l t r s b).flatten=l.toks []++(t.flatMap J8++(if b then tk 6 sEq::r.toks [] else tk 6 YC::(s.toks []++[tk 6 Yaw,tk 6 YQ]))):=by
 unfold hTw;rw[List.flatten_append,List.flatten_append,Ybk,List.append_assoc];congr 2
 ·induction t with
  |nil=>rfl
  |
   cons p t ih=>
   rw[List.flatMap_cons,List.flatMap_cons,List.flatten_append,ih];simp[J8,Ybk]
 ·cases b<;>simp[Ybk]
theorem YcL:∀(S:Ss) (ind:Nat),(S.tLines ind).flatMap (fun l=>l.2.flatten)=S.toks
 |.nil,_=>rfl
 |
  .cons l t r s k rest,ind=>by
  unfold Ss.tLines Ss.toks;rw[List.flatMap_cons,List.flatMap_append,YcL rest ind];by_cases hk:k.len=0
  ·rw[if_pos hk,if_pos hk,List.flatMap_nil,List.nil_append];dsimp only;rw[show(k.len==0)=true by simpa using hk,Ymw (YnA _ _ _ _ _),Ykt];simp
  ·rw[if_neg hk,if_neg hk,List.flatMap_append,YcL k (ind+2)];dsimp only;rw[show(k.len==0)=false by simpa using hk];show(hTw l t r s false).flatten++_=_;rw[Ykt];simp
theorem Ydx:∀(S:Ss) (ind blocks:Nat),S.form blocks=0->(S.tLines ind).map (fun l=>(l.1,l.2.map catT))=(S.wLines ind).map fun l=>(l.1,YfB l.2.1 l.2.2)
 |.nil,_,_,_=>rfl
 |
  .cons l t r s k rest,ind,blocks,hf=>by
  obtain⟨f1,f2,f3,f4,f5⟩:=Ycm hf;unfold Ss.tLines Ss.wLines;rw[List.map_cons,List.map_cons,List.map_append,List.map_append,Ydx rest ind blocks f5];dsimp only;rw[YoE,Yqs f1 f2 (fun q=>(f3 (by simpa using q)).2) (fun q=>(f4 (by simpa using q)).2.2.1)];congr 2
  by_cases hk:k.len=0
  ·rw[if_pos hk,if_pos hk]; rfl
  ·rw[if_neg hk,if_neg hk,List.map_append,List.map_append,Ydx k (ind+2) (blocks+1) (f4 hk).2.2.2];rfl
theorem Yp5 {ws:List (List Ti)}{ends:Bool}(h:∀w∈ws,WOk w)(hne:¬ws=[]):∀w∈YhY ws ends,WOk w:=by
 obtain⟨a,b,rfl⟩:∃a b,ws=a++[b]:=⟨_,_,(List.dropLast_concat_getLast hne).symm⟩;intro w hw;cases ends with
 |false=>exact h w hw
 |
  true=>
  unfold YhY at hw;simp at hw;rcases hw with hw | rfl
  ·exact h w (by simp[hw])
  ·exact(h b Zs).signs (Yb0 (by decide+kernel))
theorem Yq1 {l:Ts}{t:List (Ts×Ts)}{r s:Ts}{b:Bool}(hl:Yy 7 l=0)(ht:J5 t=0)(hr:b=true->Yy 8 r=0)(hs:b=false->Yy 8 s=0):∀w∈hTw l t r s b,WOk w:=by
 intro w hw;unfold hTw at hw;rw[List.mem_append,List.mem_append] at hw;rcases hw with(hw | hw) | hw
 ·exact Yc1 7 l [] (Jq hl) w hw
 ·induction t with
  |nil=>simp at hw
  |
   cons p t ih=>
   obtain⟨h1,h2⟩:=Ye.1 ht;obtain⟨h3,h4⟩:=Ye.1 h1;rw[List.flatMap_cons,List.mem_append] at hw;rcases hw with hw | hw
   ·rw[List.mem_cons,List.mem_append,List.mem_cons] at hw;rcases hw with rfl | hw | rfl | hw
    ·exact JM (by decide+kernel)
    ·exact Yc1 8 _ [] (Jq h3) w hw
    ·exact JM (by decide+kernel)
    ·exact Yc1 7 _ [] (Jq h4) w hw
   ·exact ih h2 hw
 ·cases b with
  |
   true=>
   rw[if_pos rfl,List.mem_cons] at hw;rcases hw with rfl | hw
   ·exact JM (by decide+kernel)
   ·exact Yc1 8 _ [] (Jq (hr rfl)) w hw
  |
   false=>
   rw[if_neg Zd,List.mem_cons,List.mem_append,List.mem_cons,List.mem_singleton] at hw;rcases hw with rfl | hw | rfl | rfl
   ·exact JM (by decide+kernel)
   ·exact Yc1 8 _ [] (Jq (hs rfl)) w hw
   ·exact JM (by decide+kernel)
   ·exact JM (by decide+kernel)
theorem YeI:∀(S:Ss) (ind blocks:Nat),S.form blocks=0->∀l∈S.tLines ind,¬l.2=[]/\∀w∈l.2,WOk w
 |.nil,_,_,_,l,hl=>by simp[Ss.tLines] at hl
 |
  .cons l t r s k rest,ind,blocks,hf,x,hx=>by
  obtain⟨f1,f2,f3,f4,f5⟩:=Ycm hf;unfold Ss.tLines at hx;rw[List.mem_cons,List.mem_append] at hx;rcases hx with rfl | hx | hx
  ·refine⟨?_,Yp5 (Yq1 f1 f2 (fun q=>(f3 (by simpa using q)).2) (fun q=>(f4 (by simpa using q)).2.2.1)) (YnA _ _ _ _ _)⟩;dsimp only;unfold YhY;split
   ·simp
   ·exact YnA _ _ _ _ _
  ·by_cases hk:k.len=0
   ·rw[if_pos hk] at hx; simp at hx
   ·rw[if_neg hk,List.mem_append,List.mem_singleton] at hx;rcases hx with hx | rfl
    ·exact YeI k (ind+2) (blocks+1) (f4 hk).2.2.2 x hx
    ·refine⟨by simp,fun w hw=>?_⟩;rw[List.mem_singleton.1 hw];exact(JM (s:=sEnd) (by decide+kernel)).signs (Yb0 (by decide+kernel))
  ·exact YeI rest ind blocks f5 x hx
def lnW:List UInt8×List (List Ti)->List (List UInt8×List Ti)
 |(_,[])=>[]
 |(g,w::r)=>(g,w)::r.map fun x=>([32],x)
def Yaq (ls:List (List UInt8×List (List Ti))):List UInt8:=ls.flatMap fun p=>p.1++JC [32] (p.2.map catT)
theorem Yir:∀(r:List (List Ti)) (w:List Ti),JC [32] ((w::r).map catT)=catT w++Yeh (r.map fun x=>([32],x))
 |[],w=>by simp[JC,Yeh]
 |
  x::r,w=>by
  have:=Yir r x;rw[List.map_cons] at this;rw[List.map_cons,List.map_cons,JC,this];simp[Yeh]
theorem Yqh {p:List UInt8×List (List Ti)}(h:¬p.2=[]):Yeh (lnW p)=p.1++JC [32] (p.2.map catT):=by
 obtain⟨g,ws⟩:=p;match ws,h with
 |
  w::r,_=>
  show Yeh ((g,w)::r.map fun x=>([32],x))=g++JC [32] ((w::r).map catT);rw[Yir];simp[Yeh]
theorem Ykj:∀ls:List (List UInt8×List (List Ti)),(∀p∈ls,¬p.2=[])->Yeh (ls.flatMap lnW)=Yaq ls
 |[],_=>rfl
 |
  p::ls,h=>by
  have ih:=Ykj ls fun q hq=>h q (List.mem_cons_of_mem _ hq);unfold Yeh Yaq at*;rw[List.flatMap_cons,List.flatMap_append,List.flatMap_cons,ih];congr 1
  exact Yqh (h p Zs)
theorem Ygx:∀r:List (List Ti),(r.map fun x=>(([32]:List UInt8),x)).flatMap (fun p=>p.2)=r.flatten
 |[]=>rfl
 |x::r=>by rw[List.map_cons,List.flatMap_cons,Ygx r,List.flatten_cons]
theorem Ykh:∀ls:List (List UInt8×List (List Ti)),YhD (ls.flatMap lnW)=ls.flatMap fun p=>p.2.flatten
 |[]=>rfl
 |
  p::ls=>by
  have ih:=Ykh ls;unfold YhD at*;rw[List.flatMap_cons,List.flatMap_append,ih,List.flatMap_cons];congr 1
  obtain⟨g,ws⟩:=p;cases ws with
  |nil=>rfl
  |
   cons w r=>
   show w++(r.map fun x=>(([32]:List UInt8),x)).flatMap (fun p=>p.2)=w++r.flatten;rw[Ygx]
def YcZ:Bool->List (List UInt8×List (List Ti))->Prop
 |_,[]=>True
 |first,p::l=>Wh p.1/\(first=false->p.1≠[])/\¬p.2=[]/\(∀w∈p.2,WOk w)/\YcZ false l
theorem Yku:∀(a b:List (List UInt8×List Ti)) (first:Bool),Yfh first a->(¬a=[]\/first=false)->Yfh false b->Yfh first (a++b)
 |
  [],b,first,_,h,hb=>by
  rcases h with h | rfl
  ·exact absurd rfl h
  ·exact hb
 |p::a,b,first,ha,_,hb=>⟨ha.1,ha.2.1,ha.2.2.1,Yku a b false ha.2.2.2 (.inr rfl) hb⟩
theorem Yki:∀(ls:List (List UInt8×List (List Ti))) (first:Bool),YcZ first ls->Yfh first (ls.flatMap lnW)
 |[],_,_=>trivial
 |
  (g,ws)::ls,first,h=>by
  obtain⟨h1,h2,h3,h4,h5⟩:=h;rw[List.flatMap_cons];match ws,h3,h4 with
  |
   w::r,_,h4=>
   have inner:∀r:List (List Ti),(∀w∈r,WOk w)->Yfh false (r.map fun x=>([32],x)):=by
    intro r;induction r with
    |nil=>intro _; trivial
    |cons x r ih=>intro hr; exact⟨fun b hb=>.inl (by simpa using hb),fun _=>by simp,hr x Zs,ih fun y hy=>hr y (List.mem_cons_of_mem _ hy)⟩
   exact Yku _ _ first ⟨h1,h2,h4 w Zs,inner r fun y hy=>h4 y (List.mem_cons_of_mem _ hy)⟩ (.inl (by simp[lnW])) (Yki ls false h5)
theorem YcZ.app:∀(a b:List (List UInt8×List (List Ti))) (first:Bool),YcZ first a->(¬a=[]\/first=false)->YcZ false b->YcZ first (a++b)
 |
  [],b,first,_,h,hb=>by
  rcases h with h | rfl
  ·exact absurd rfl h
  ·exact hb
 |p::a,b,first,ha,_,hb=>⟨ha.1,ha.2.1,ha.2.2.1,ha.2.2.2.1,YcZ.app a b false ha.2.2.2.2 (.inr rfl) hb⟩
def extW:List ByteArray->List (List Ti)
 |[]=>[]
 |[x]=>[[tk 3 x,tk 6 Ja]]
 |x::y::l=>[tk 3 x,tk 6 YC]::extW (y::l)
def Yjt (first:Bool)(f:Fn):List (List UInt8×List (List Ti)):=
 (if first then [] else [10,10],(if f.entry=true then [[tk 7 YaQ]] else [])++[[tk 3 f.name],[tk 6 YQ]])::((f.sents.tLines 2).map (fun l=>(10::List.replicate l.1 32,l.2))++[([10],[[tk 6 sEnd]])])
def Yfl:Bool->List Fn->List (List UInt8×List (List Ti))
 |_,[]=>[]
 |first,f::l=>Yjt first f++Yfl false l
def Md.lns (m:Md):List (List UInt8×List (List Ti)):=
 (if m.externs.length=0 then [] else [([],[tk 7 Yas]::extW m.externs)])++Yfl (m.externs.length==0) m.funcs
theorem YkB:∀l:List ByteArray,¬l=[]->(extW l).flatten=YcU l++[tk 6 Ja]
 |[],h=>absurd rfl h
 |[x],_=>rfl
 |
  x::y::l,_=>by
  unfold extW YcU;rw[List.flatten_cons,YkB (y::l) Zs];rfl
theorem Ylv (first:Bool)(f:Fn):(Yjt first f).flatMap (fun p=>p.2.flatten)=fnT f:=by
 unfold Yjt fnT;rw[List.flatMap_cons,List.flatMap_append,List.flatMap_map];dsimp only;rw[YcL];cases f.entry<;>simp
theorem Yfj:∀(l:List Fn) (first:Bool),(Yfl first l).flatMap (fun p=>p.2.flatten)=l.flatMap fnT
 |[],_=>rfl
 |f::l,first=>by rw[Yfl,List.flatMap_append,Ylv,Yfj l false,List.flatMap_cons]
theorem YqX (m:Md):m.lns.flatMap (fun p=>p.2.flatten)=m.toks:=by
 unfold Md.lns Md.toks;rw[List.flatMap_append,Yfj];congr 1
 by_cases h:m.externs.length=0
 ·rw[if_pos h,if_pos h]; rfl
 ·rw[if_neg h,if_neg h];have:=YkB m.externs fun q=>h (by rw[q]; rfl);simp[this]
theorem YqL (n:Nat):Wh (10::List.replicate n 32):=by
 intro b hb;rcases List.mem_cons.1 hb with rfl | hb
 ·exact .inr rfl
 ·exact .inl (List.eq_of_mem_replicate hb)
theorem YdK {s:ByteArray}(h:Yh 40 s=true):WOk [tk 3 s]:=Yd9 (Ygs (YpI h))
theorem YnH:∀l:List ByteArray,JE l=0->∀w∈extW l,WOk w
 |[],_,w,hw=>by simp[extW] at hw
 |
  [x],h,w,hw=>by
  rw[List.mem_singleton.1 hw];exact(YdK (named_ok (Ye.1 h).1)).signs (Yb0 (by decide+kernel))
 |
  x::y::l,h,w,hw=>by
  rcases List.mem_cons.1 hw with rfl | hw
  ·exact(YdK (named_ok (Ye.1 h).1)).signs (Yb0 (by decide+kernel))
  ·exact YnH (y::l) (Ye.1 h).2 w hw
theorem Ygg:∀l:List (Nat×List (List Ti)),(∀x∈l,¬x.2=[]/\∀w∈x.2,WOk w)->YcZ false (l.map fun l=>(10::List.replicate l.1 32,l.2))
 |[],_=>trivial
 |x::l,h=>⟨YqL _,fun _=>by simp,(h x Zs).1,(h x Zs).2,Ygg l fun y hy=>h y (List.mem_cons_of_mem _ hy)⟩
theorem YpD:Wh [10]:=fun b hb=>.inr (by simpa using hb)
theorem Ypb {first:Bool}{f:Fn}(h1:Yh 40 f.name=true)(h3:f.sents.form 0=0):YcZ first (Yjt first f):=by
 refine⟨?_,fun q=>by rw[q]; simp,by cases f.entry<;>simp,?_,?_⟩
 ·intro b hb;cases first with
  |true=>simp at hb
  |false=>exact .inr (by simpa using hb)
 ·intro w hw;rw[List.mem_append] at hw;rcases hw with hw | hw
  ·split at hw
   ·rw[List.mem_singleton.1 hw]; exact Yd9 (by decide+kernel)
   ·simp at hw
  ·rw[List.mem_cons,List.mem_singleton] at hw;rcases hw with rfl | rfl
   ·exact YdK h1
   ·exact JM (by decide+kernel)
 ·refine YcZ.app _ _ false (Ygg _ (YeI f.sents 2 0 h3)) (.inr rfl) ⟨YpD,fun _=>by simp,by simp,fun w hw=>?_,trivial⟩;rw[List.mem_singleton.1 hw];exact JM (by decide+kernel)
theorem Yfk:∀(l:List Fn) (first:Bool),Jw l=0->YcZ first (Yfl first l)
 |[],_,_=>trivial
 |
  f::l,first,h=>by
  obtain⟨h1,_,h3,h4⟩:=Ycl h;exact YcZ.app _ _ first (Ypb h1 h3) (.inl (by simp[Yjt])) (Yfk l false h4)
theorem YqW {m:Md}(hm:Yat m=0):YcZ true m.lns:=by
 obtain⟨h1,h2⟩:=Jz.1 hm;unfold Md.lns;by_cases h:m.externs.length=0
 ·rw[if_pos h,show(m.externs.length==0)=true by simpa using h];exact Yfk m.funcs true h2
 ·rw[if_neg h,show(m.externs.length==0)=false by simpa using h];refine YcZ.app _ _ true ⟨fun b hb=>by simp at hb,fun q=>by simp at q,by simp,fun w hw=>?_,trivial⟩ (.inl Zs) (Yfk m.funcs false h2);rcases List.mem_cons.1 hw with rfl | hw
  ·exact Yd9 (by decide+kernel)
  ·exact YnH _ h1 w hw
theorem Yj6 {s:ByteArray}{m:Md}{ws:List (List UInt8×List Ti)}{e:List UInt8}(hm:Yat m=0)(hz:s.size<=40000)(hg:Yfh true ws)(he:Wh e)(ht:YhD ws=m.toks)(h:s.data.toList=Yeh ws++e):∃k,readB s= .ok m k:=by
 obtain⟨L,sp,h1,h2⟩:=Ylf hz hg he h;exact⟨_,YmG hm h1 (by rw[h2,ht])⟩
theorem YhR {α:Type}(f:α->List UInt8):∀l:List α,[10]++l.flatMap (fun x=>f x++[10])=l.flatMap (fun x=>10::f x)++[10]
 |[]=>rfl
 |
  x::l=>by
  have:=YhR f l;rw[List.flatMap_cons,List.flatMap_cons,List.append_assoc (10::f x),<-this];simp
theorem YkC:∀l:List ByteArray,¬l=[]->JC [32] ((extW l).map catT)=JC [44,32] (l.map fun s=>s.data.toList)++[59]
 |[],h=>absurd rfl h
 |[x],_=>rfl
 |
  x::y::l,_=>by
  have ih:=YkC (y::l) Zs;have e:∃a b,(extW (y::l)).map catT=a::b:=by cases l<;>exact⟨_,_,rfl⟩
  obtain⟨a,b,e⟩:=e;rw[e] at ih;have e2:JC [44,32] ((x::y::l).map fun s=>s.data.toList)=x.data.toList++[44,32]++JC [44,32] ((y::l).map fun s=>s.data.toList):=rfl;rw[extW,List.map_cons,e,JC,ih,e2];rw[show catT [tk 3 x,tk 6 YC]=x.data.toList++[44] from rfl];simp
theorem Ylw {first:Bool}{f:Fn}(h3:f.sents.form 0=0):Yaq (Yjt first f)++[10]=(if first then [] else [10])++YkX first f:=by
 have hl:Yaq ((f.sents.tLines 2).map fun l=>(10::List.replicate l.1 32,l.2))=(f.sents.wLines 2).flatMap fun l=>10::Yc4 l:=by
  unfold Yaq;rw[List.flatMap_map];have e1:(f.sents.tLines 2).flatMap (fun l=>(10::List.replicate l.1 32)++JC [32] (l.2.map catT))=((f.sents.tLines 2).map fun l=>(l.1,l.2.map catT)).flatMap fun l=>10::(List.replicate l.1 32++JC [32] l.2):=by
   rw[List.flatMap_map]; rfl
  rw[e1,Ydx f.sents 2 0 h3,List.flatMap_map];rfl
 have ha:∀a b,Yaq (a++b)=Yaq a++Yaq b:=fun a b=>by unfold Yaq; rw[List.flatMap_append]
 have hc:∀p l,Yaq (p::l)=(p.1++JC [32] (p.2.map catT))++Yaq l:=fun p l=>by unfold Yaq; rw[List.flatMap_cons]
 unfold Yjt YkX;rw[hc,ha,hl];have hs:=YhR Yc4 (f.sents.wLines 2);have e2:Yaq [([10],[[tk 6 sEnd]])]=[10,125]:=rfl;rw[e2];cases he:f.entry with
 |
  true=>
  simp only[↓reduceIte];have e3:JC [32] (([[tk 7 YaQ]]++[[tk 3 f.name],[tk 6 YQ]]).map catT)=[36,69,78,84,82,89,32]++(f.name.data.toList++[32,123]):=by
   show catT [tk 7 YaQ]++[32]++(catT [tk 3 f.name]++[32]++catT [tk 6 YQ])=_;rw[show catT [tk 7 YaQ]=[36,69,78,84,82,89] from rfl,show catT [tk 3 f.name]=f.name.data.toList by simp[catT,outT,tk,YS],show catT [tk 6 YQ]=[123] from rfl];simp
  rw[e3];have:∀x:List UInt8,[32,123,10]++x=[32,123]++([10]++x):=fun _=>rfl;rw[this,<-List.append_assoc [10] _ [125,10],hs];cases first<;>simp
 |
  false=>
  simp only[↓reduceIte,Bool.false_eq_true];have e3:JC [32] (([]++[[tk 3 f.name],[tk 6 YQ]]).map catT)=f.name.data.toList++[32,123]:=by
   show catT [tk 3 f.name]++[32]++catT [tk 6 YQ]=_;rw[show catT [tk 3 f.name]=f.name.data.toList by simp[catT,outT,tk,YS],show catT [tk 6 YQ]=[123] from rfl];simp
  rw[e3];have:∀x:List UInt8,[32,123,10]++x=[32,123]++([10]++x):=fun _=>rfl;rw[this,<-List.append_assoc [10] _ [125,10],hs];cases first<;>simp
theorem YcT:∀(l:List Fn) (first:Bool),Jw l=0->(¬l=[]\/first=false)->Yaq (Yfl first l)++[10]=(if first then [] else [10])++YbP first l
 |
  [],first,_,h=>by
  rcases h with h | rfl
  ·exact absurd rfl h
  ·rfl
 |
  f::l,first,hc,_=>by
  obtain⟨_,_,h3,h4⟩:=Ycl hc;have ha:∀a b,Yaq (a++b)=Yaq a++Yaq b:=fun a b=>by unfold Yaq; rw[List.flatMap_append]
  rw[Yfl,ha,List.append_assoc,YcT l false h4 (.inr rfl)];show _++([10]++YbP false l)=_;rw[<-List.append_assoc,Ylw h3,YbP];simp
theorem YoX {m:Md}(hm:Yat m=0)(hne:¬(m.externs=[]/\m.funcs=[])):Yaq m.lns++[10]=wText m:=by
 obtain⟨h1,h2⟩:=Jz.1 hm;have ha:∀a b,Yaq (a++b)=Yaq a++Yaq b:=fun a b=>by unfold Yaq; rw[List.flatMap_append]
 unfold Md.lns wText wExt;by_cases h:m.externs.length=0
 ·have e0:m.externs=[]:=List.length_eq_zero_iff.1 h;rw[if_pos h,if_pos h,show(m.externs.length==0)=true by simpa using h];exact YcT m.funcs true h2 (.inl fun q=>hne ⟨e0,q⟩)
 ·have hx:¬m.externs=[]:=fun q=>h (by rw[q]; rfl);rw[if_neg h,if_neg h,show(m.externs.length==0)=false by simpa using h,ha,List.append_assoc,YcT m.funcs false h2 (.inr rfl)];have e1:Yaq [([],[tk 7 Yas]::extW m.externs)]=[36,69,88,84,69,82,78,32]++(JC [44,32] (m.externs.map fun s=>s.data.toList)++[59]):=by
   rw[<-YkC m.externs hx];have e:∃a b,(extW m.externs).map catT=a::b:=by
    match m.externs,hx with
    |[x],_=>exact⟨_,_,rfl⟩
    |x::y::l,_=>exact⟨_,_,rfl⟩
   obtain⟨a,b,e⟩:=e;unfold Yaq;rw[List.flatMap_cons,List.flatMap_nil,List.append_nil,List.nil_append];show JC [32] (catT [tk 7 Yas]::(extW m.externs).map catT)=_;rw[e,JC];rfl
  rw[e1];simp
theorem YkV {m:Md}(hm:Yat m=0)(hz:(wText m).length<=40000):∃k,readB ⟨(wText m).toArray⟩= .ok m k:=by
 have hsz:(⟨(wText m).toArray⟩:ByteArray).size=(wText m).length:=List.size_toArray ..;have hok:=YqW hm;have hne:∀(ls:List (List UInt8×List (List Ti))) (b:Bool),YcZ b ls->∀p∈ls,¬p.2=[]:=by
  intro ls;induction ls with
  |nil=>intro b _ p hp; simp at hp
  |
   cons q ls ih=>
   intro b hb p hp;rcases List.mem_cons.1 hp with rfl | hp
   ·exact hb.2.2.1
   ·exact ih false hb.2.2.2.2 p hp
 by_cases he:m.externs=[]/\m.funcs=[]
 ·refine Yj6 (ws:=[]) (e:=[]) hm (by rw[hsz]; exact hz) trivial (fun b hb=>by simp at hb) ?_ ?_
  ·obtain⟨a,b⟩:=m;obtain⟨rfl,rfl⟩:=he;rfl
  ·obtain⟨a,b⟩:=m;obtain⟨rfl,rfl⟩:=he;rfl
 ·refine Yj6 (ws:=m.lns.flatMap lnW) (e:=[10]) hm (by rw[hsz]; exact hz) (Yki _ _ hok) YpD ?_ ?_
  ·rw[Ykh,YqX]
  ·rw[Ykj _ (hne _ _ hok),YoX hm he]
theorem Yih {s:ByteArray}{k:Int}{fr fin:Nat}{kind:Int}{text:ByteArray}{f:Nat}(hk:¬k=1/\¬k=2)(h:near s k fr fin= .ok kind text f):(YS kind text).size<=f - fr:=by
 unfold near at h;split at h
 ·cases h
 ·cases h;rw[Ybn hk.1 hk.2,ByteArray.size_extract];omega
theorem Yi2 {s:ByteArray}{i:Nat}{kind:Int}{text:ByteArray}{fin:Nat}(h:tokN s i= .ok kind text fin):(YS kind text).size<=4*(fin - i):=by
 unfold tokN at h;split at h
 ·rename_i hq
  cases hQ:quoN s (bt s i) (s.size - i) (i+1) [] with
  |bad=>rw[hQ] at h; cases h
  |
   ok out f=>
   rw[hQ] at h;have h1:=YeZ s (bt s i) _ _ _ _ _ hQ;have h3:(⟨out.toArray⟩:ByteArray).size=out.length:=List.size_toArray ..;simp at h1;unfold quoR at h;dsimp only at h;split at h
   ·cases h;have:=Yc7 1 ⟨out.toArray⟩;omega
   ·split at h
    ·cases h
    ·cases h;have:=Yc7 2 ⟨out.toArray⟩;omega
 ·split at h
  ·cases h;rw[Ybn Zd Zd,ByteArray.size_extract];omega
  ·have key:∀{k:Int} {f0:Nat},¬k=1/\¬k=2->near s k i f0= .ok kind text fin->(YS kind text).size<=4*(fin - i):=fun hk hn=>by have:=Yih hk hn; omega
   repeat' first
    |exact key ⟨by decide,by decide⟩ h
    |(cases h; done)
    |split at h
def wTk:List (Int×ByteArray)->Nat
 |[]=>0
 |x::l=>(YS x.1 x.2).size+1+wTk l
theorem Yl1:∀a b:List (Int×ByteArray),wTk (a++b)=wTk a+wTk b
 |[],b=>by simp[wTk]
 |x::a,b=>by rw[List.cons_append,wTk,wTk,Yl1 a b]; omega
def kt (x:Tk):Int×ByteArray:=(x.kind,x.text)
theorem Yd2 (s:ByteArray):∀(n i:Nat) (sp:List (Nat×Nat)) (acc l:List Tk) (sp':List (Nat×Nat)),i<=s.size->wTk (acc.map kt)<=5*i->Jd s n i sp acc= .ok l sp'->wTk (l.map kt)<=5*s.size
 |0,i,sp,acc,l,sp',hi,hz,h=>by simp only[Jd,Ydr.ok.injEq] at h; rw[<-h.1]; omega
 |
  n+1,i,sp,acc,l,sp',hi,hz,h=>by
  unfold Jd at h;split at h
  ·cases h
  ·rename_i j sp1 hs
   have hj:=JK s _ _ _ _ _ hi hs;split at h
   ·cases h; omega
   ·split at h
    ·cases h
    ·rename_i kind text fin ht
     have hf:=Ycx Zo ht;have hw:=Yi2 ht;refine Yd2 s n _ _ _ _ _ hf.2 ?_ h;rw[List.map_append,Yl1];show _+((YS kind text).size+1+0)<=_;omega
theorem Yd7 {s:ByteArray}{l:List Tk}{sp:List (Nat×Nat)}(h:Jr s= .ok l sp):wTk (l.map kt)<=5*s.size:=by
 unfold Jr at h;split at h
 ·cases h
 ·exact Yd2 s _ _ _ _ _ _ (Nat.zero_le _) (by simp[wTk]) h
def tiOf (x:Tk):Ti:=⟨x.kind,x.text,x.at_⟩
theorem YmN:∀(l:List Tk) (prev:Bool),(YdJ (YiB prev (l.map tiOf)) (l.map tiOf)).length<=wTk (l.map kt)
 |[],prev=>by simp[YiB,YdJ,wTk]
 |
  x::l,prev=>by
  have ih:=YmN l (gapK x.kind);rw[List.map_cons,YiB,YdJ,List.length_append,List.length_append,List.map_cons,wTk];have h1:(YS (tiOf x).kind (tiOf x).text).data.toList.length=(YS (kt x).1 (kt x).2).size:=Array.length_toList;have h2:(if (prev&&gapK (tiOf x).kind) then [32] else ([]:List UInt8)).length<=1:=by split<;>simp
  have h3:(YdJ (YiB (gapK (tiOf x).kind) (l.map tiOf)) (l.map tiOf)).length<=wTk (l.map kt):=ih;omega
theorem Ynf {s:ByteArray}{L:List Tk}{sp:List (Nat×Nat)}{m:Md}{j:Nat}(hs:s.size<=3000)(h1:Jr s= .ok L sp)(hr:readB s= .ok m j):∃c,YcO (L.map tiOf)=(c,0)/\c.size<=40000/\readB c= .ok m j:=by
 have hok:=Yf6 h1;have hbad:YfL (L.map tiOf)=none:=YkM fun k hk=>by
  obtain⟨y,hy,e⟩:=List.mem_map.1 (List.getElem_mem hk);rw[<-e];exact Ygs (hok y hy)
 have hlen:(Y6 (L.map tiOf) (L.map tiOf).length).length<=40000:=by
  rw[Ygi];have h2:=YmN L false;have h3:=Yd7 h1;omega
 have hj:YcO (L.map tiOf)=(⟨(Y6 (L.map tiOf) (L.map tiOf).length).toArray⟩,0):=by
  unfold YcO;rw[hbad];dsimp only;rw[if_neg Zo]
 obtain⟨hz,_,L',sp',h2,h3⟩:=YmA hj;refine⟨_,hj,hz,Yh7 h1 h2 ?_ hr⟩;unfold Yz;rw[h3,List.map_map];rfl
theorem Yla {s:ByteArray}{L:List Tk}{sp:List (Nat×Nat)}{m:Md}{j:Nat}(h1:Jr s= .ok L sp)(hr:readB s= .ok m j):readB (YT s sp)= .ok m j:=by
 exact Yh7 h1 (Ylg h1) rfl hr
def tkW (t:Tk):Nat:=2*(t.text.size+1)
def Wt (L:List Tk)(i:Nat):Nat:=((L.take i).map tkW).sum
theorem YjK {L:List Tk}{i:Nat}{t:Tk}(h:L[i]? =some t):Wt L (i+1)=Wt L i+tkW t:=by
 unfold Wt;rw[List.take_add_one,h];simp
theorem YbF {L:List Tk}{i:Nat}(h:i<L.length):Wt L i+2<=Wt L (i+1):=by
 rw[YjK (List.getElem?_eq_getElem h)];unfold tkW; omega
theorem Yre (L:List Tk){i:Nat}:Wt L i<=Wt L L.length:=by
 unfold Wt;rw[List.take_length];conv=>rhs; rw[<-List.take_append_drop i L]
 rw[List.map_append,List.sum_append];omega
def Ts.wt:Ts->Nat
 |.nil=>0
 |.cons _ t kids rest=>t.size+1+kids.wt+rest.wt
theorem Ts.wt_app:∀a b:Ts,(a.app b).wt=a.wt+b.wt
 |.nil,b=>by simp[Ts.app,Ts.wt]
 |.cons _ _ _ rest,b=>by rw[Ts.app,Ts.wt,Ts.wt,Ts.wt_app rest]; omega
theorem YkK (s:ByteArray):∀n i,(Yt s n i).wt<=2*n
 |0,_=>Nat.le_refl _
 |
  n+1,i=>by
  have:=YkK s n (i+1);have h1:(s.extract i (i+1)).size<=1:=by rw[ByteArray.size_extract]; omega
  show(s.extract i (i+1)).size+1+0+(Yt s n (i+1)).wt<=_;omega
theorem YqM (s:ByteArray):(varT s .nil).wt<=s.size+1:=by
 unfold varT;split
 ·show(s.extract 2 s.size).size+1+0+0<=_;rw[ByteArray.size_extract]; omega
 ·show(⟨#[]⟩:ByteArray).size+1+0+0<=_;show 0+1+0+0<=_;omega
theorem YdN {L:List Tk}{en i:Nat}{s:ByteArray}{u:Unit}{k:Nat}(h:YG L en i s= .ok u k):Wt L i+2<=Wt L k:=by
 obtain⟨h1,rfl⟩:=YoW h;exact YbF (Jf h1)
theorem Yjg {L:List Tk}{en i:Nat}{s:ByteArray}{k:Nat}(h:Jn L en i= .ok s k):Wt L i+(s.size+1)+1<=Wt L k:=by
 obtain⟨t,h1,_,_,rfl,rfl⟩:=Yg8 h;rw[YjK h1];unfold tkW; omega
theorem Yay (L:List Tk)(en:Nat)(pat:Bool):∀(n deep i:Nat) (acc ts:Ts) (j:Nat),Yc L en pat n deep i acc= .ok ts j->ts.wt+Wt L i<=acc.wt+Wt L j
 |0,_,_,_,_,_,hq=>by cases hq; omega
 |
  n+1,deep,i,acc,ts,j,hq=>by
  unfold Yc at hq;cases q:L[i]? with
  |none=>rw[q] at hq; cases hq; omega
  |
   some t=>
   have hw:=YjK q;unfold tkW at hw;rw[q] at hq;dsimp only at hq;by_cases k1:t.kind=1
   ·rw[if_pos k1] at hq;have:=Yay L en pat n _ _ _ _ _ hq;have h2:=YkK t.text t.text.size 0;rw[Ts.wt_app] at this;unfold YbK at this;omega
   ·rw[if_neg k1] at hq;by_cases k2:t.kind=2\/t.kind=3
    ·rw[if_pos k2] at hq;have:=Yay L en pat n _ _ _ _ _ hq;rw[Ts.wt_app] at this;simp only[Ts.wt] at this;omega
    ·rw[if_neg k2] at hq;by_cases k4:t.kind=4
     ·rw[if_pos k4] at hq;have:=Yay L en pat n _ _ _ _ _ hq;rw[Ts.wt_app] at this;simp only[Ts.wt] at this;omega
     ·rw[if_neg k4] at hq;by_cases k5:t.kind=5
      ·rw[if_pos k5] at hq;have:=Yay L en pat n _ _ _ _ _ hq;have h2:=YqM t.text;rw[Ts.wt_app] at this;omega
      ·rw[if_neg k5] at hq;by_cases k6:t.kind=6/\t.text=Yar
       ·rw[if_pos k6] at hq;by_cases kd:100<=deep
        ·rw[if_pos kd] at hq; cases hq
        ·rw[if_neg kd] at hq;obtain⟨kids,j1,g1,hq⟩:=Rd.bind_ok hq;obtain⟨_,j2,g2,hq⟩:=Rd.bind_ok hq;have e1:=Yay L en pat n _ _ _ _ _ g1;have e2:=YdN g2;have e3:=Yay L en pat n _ _ _ _ _ hq;rw[Ts.wt_app] at e3;simp only[Ts.wt] at e1 e3;have z:(⟨#[]⟩:ByteArray).size=0:=rfl;rw[z] at e3;omega
       ·rw[if_neg k6] at hq;by_cases k7:t.kind=6/\t.text=JW
        ·rw[if_pos k7] at hq;by_cases kp:pat=true
         ·rw[if_pos kp] at hq; cases hq
         ·rw[if_neg kp] at hq;by_cases kd:100<=deep
          ·rw[if_pos kd] at hq; cases hq
          ·rw[if_neg kd] at hq;obtain⟨nm,j0,g0,hq⟩:=Rd.bind_ok hq;obtain⟨kids,j1,g1,hq⟩:=Rd.bind_ok hq;obtain⟨_,j2,g2,hq⟩:=Rd.bind_ok hq;have e0:=Yjg g0;have e1:=Yay L en pat n _ _ _ _ _ g1;have e2:=YdN g2;have e3:=Yay L en pat n _ _ _ _ _ hq;rw[Ts.wt_app] at e3;simp only[Ts.wt] at e1 e3;omega
        ·rw[if_neg k7] at hq; cases hq; omega
theorem Yhj {L:List Tk}{en:Nat}{pat:Bool}{i j:Nat}{ts:Ts}(h:Jo L en pat i= .ok ts j):ts.wt+Wt L i<=Wt L j:=by
 unfold Jo at h;obtain⟨l,k,g1,h⟩:=Rd.bind_ok h;have:=Yay L en pat _ _ _ _ _ _ g1;simp only[Ts.wt] at this;split at h
 ·cases h
 ·cases h; omega
def Jy:List (Ts×Ts)->Nat
 |[]=>0
 |x::l=>3+x.1.wt+x.2.wt+Jy l
theorem YeG:∀a b,Jy (a++b)=Jy a+Jy b
 |[],b=>by simp[Jy]
 |x::a,b=>by rw[List.cons_append,Jy,Jy,YeG a b]; omega
def Ss.wt:Ss->Nat
 |.nil=>0
 |.cons l t r s k rest=>1+l.wt+Jy t+r.wt+s.wt+k.wt+rest.wt
theorem Ss.wt_app:∀a b:Ss,(a.app b).wt=a.wt+b.wt
 |.nil,b=>by simp[Ss.app,Ss.wt]
 |.cons _ _ _ _ _ rest,b=>by rw[Ss.app,Ss.wt,Ss.wt,Ss.wt_app rest]; omega
mutual
theorem Ymv (L:List Tk)(en:Nat):∀(n blocks i:Nat) (left:Ts) (tests:List (Ts×Ts)) (s:Ss) (j:Nat),Y9 L en n blocks i left tests= .ok s j->s.wt+Wt L i<=left.wt+Jy tests+Wt L j
 |0,_,_,_,_,_,_,hq=>by unfold Y9 at hq; cases hq
 |
  n+1,blocks,i,left,tests,s,j,hq=>by
  unfold Y9 at hq;split at hq
  ·rename_i k1
   have e0:=YbF (Jf k1);obtain⟨e,j1,g1,hq⟩:=Rd.bind_ok hq;obtain⟨_,k,g2,hq⟩:=Rd.bind_ok hq;have e1:=Yhj g1;have e2:=YdN g2;split at hq
   ·rename_i k2
    have e3:=YbF (Jf k2);split at hq
    ·cases hq
    ·obtain⟨b,m,g3,hq⟩:=Rd.bind_ok hq;have e4:=YjZ L en n _ _ _ _ g3;cases hq;simp only[Ss.wt,Ts.wt];omega
   ·obtain⟨p,m,g3,hq⟩:=Rd.bind_ok hq;have e3:=Yhj g3;have e4:=Ymv L en n _ _ _ _ _ _ hq;rw[YeG] at e4;simp only[Jy] at e4;omega
  ·obtain⟨_,k,g1,hq⟩:=Rd.bind_ok hq;obtain⟨r,q,g2,hq⟩:=Rd.bind_ok hq;have e1:=YdN g1;have e2:=Yhj g2;cases hq;simp only[Ss.wt,Ts.wt];omega
theorem YjZ (L:List Tk)(en:Nat):∀(n blocks i:Nat) (s:Ss) (j:Nat),YA L en n blocks i= .ok s j->s.wt+Wt L i<=Wt L j
 |0,_,_,_,_,hq=>by unfold YA at hq; cases hq
 |
  n+1,blocks,i,s,j,hq=>by
  unfold YA at hq;split at hq
  ·cases hq
  ·have:=Ym5 L en n _ _ _ _ _ hq;simp only[Ss.wt] at this;omega
theorem Ym5 (L:List Tk)(en:Nat):∀(n blocks i:Nat) (acc s:Ss) (j:Nat),JD L en n blocks i acc= .ok s j->s.wt+Wt L i<=acc.wt+Wt L j
 |0,_,_,_,_,_,hq=>by unfold JD at hq; cases hq
 |
  n+1,blocks,i,acc,s,j,hq=>by
  unfold JD at hq;obtain⟨left,j1,g1,hq⟩:=Rd.bind_ok hq;obtain⟨x,k,g2,hq⟩:=Rd.bind_ok hq;have e1:=Yhj g1;have e2:=Ymv L en n _ _ _ _ _ _ g2;simp only[Jy] at e2;split at hq
  ·rename_i k1
   have e3:=YbF (Jf k1);split at hq
   ·rename_i k2
    have e4:Wt L (k+1)+2<=Wt L (k+2):=YbF (Jf k2);cases hq;rw[Ss.wt_app];omega
   ·have e4:=Ym5 L en n _ _ _ _ _ hq;rw[Ss.wt_app] at e4;omega
  ·split at hq
   ·rename_i k2
    have e4:=YbF (Jf k2);cases hq;rw[Ss.wt_app];omega
   ·cases hq
end
def Ycs:List ByteArray->Nat
 |[]=>0
 |x::l=>x.size+1+Ycs l
theorem Yfm:∀a b,Ycs (a++b)=Ycs a+Ycs b
 |[],b=>by simp[Ycs]
 |x::a,b=>by rw[List.cons_append,Ycs,Ycs,Yfm a b]; omega
def YcS:List Fn->Nat
 |[]=>0
 |f::l=>f.name.size+1+f.sents.wt+YcS l
theorem YiE:∀a b,YcS (a++b)=YcS a+YcS b
 |[],b=>by simp[YcS]
 |x::a,b=>by rw[List.cons_append,YcS,YcS,YiE a b]; omega
def Md.wt (m:Md):Nat:=Ycs m.externs+YcS m.funcs
theorem YpO (L:List Tk)(en:Nat):∀(n i:Nat) (acc l:List ByteArray) (j:Nat),extN L en n i acc= .ok l j->Ycs l+Wt L i<=Ycs acc+Wt L j
 |0,_,_,_,_,hq=>by cases hq
 |
  n+1,i,acc,l,j,hq=>by
  unfold extN at hq;obtain⟨s,k,g1,hq⟩:=Rd.bind_ok hq;have e1:=Yjg g1;split at hq
  ·rename_i k1
   have e2:=YbF (Jf k1);have e3:=YpO L en n _ _ _ _ hq;rw[Yfm] at e3;simp only[Ycs] at e3;omega
  ·cases hq;rw[Yfm];simp only[Ycs];omega
theorem Yqi {L:List Tk}{en i j:Nat}{m m':Md}(hq:JY L en i m= .ok m' j):m'.wt+Wt L i<=m.wt+Wt L j:=by
 unfold JY at hq;unfold Md.wt;split at hq
 ·rename_i k1
  have e0:=YbF (Jf k1);obtain⟨l,k,g1,hq⟩:=Rd.bind_ok hq;obtain⟨_,q,g2,hq⟩:=Rd.bind_ok hq;have e1:=YpO L en _ _ _ _ _ g1;have e2:=YdN g2;cases hq;dsimp only;omega
 ·obtain⟨nm,k,g1,hq⟩:=Rd.bind_ok hq;obtain⟨_,q,g2,hq⟩:=Rd.bind_ok hq;obtain⟨b,r,g3,hq⟩:=Rd.bind_ok hq;have e1:=Yjg g1;have e2:=YdN g2;have e3:=YjZ L en _ _ _ _ _ g3;have e0:Wt L i<=Wt L (if isN L i 7 YaQ=true then i+1 else i):=by
   split
   ·rename_i k1; have:=YbF (Jf k1); omega
   ·exact Nat.le_refl _
  cases hq;dsimp only;rw[YiE];simp only[YcS];omega
theorem Ykp (L:List Tk)(en:Nat):∀(n i:Nat) (m m':Md) (j:Nat),Y2 L en n i m= .ok m' j->m'.wt+Wt L i<=m.wt+Wt L j
 |0,_,_,_,_,hq=>by cases hq
 |
  n+1,i,m,m',j,hq=>by
  unfold Y2 at hq;split at hq
  ·obtain⟨m1,k,g1,hq⟩:=Rd.bind_ok hq;have e1:=Yqi g1;have e2:=Ykp L en n _ _ _ _ hq;omega
  ·cases hq; omega
theorem Yow (k:Int)(t:ByteArray):t.size<=(YS k t).size:=by
 have h:∀mark,t.size<=(YX mark t).size:=fun mark=>by
  have h1:=Yju mark t.data.toList;have h2:t.data.toList.length=t.size:=Array.length_toList;have h3:(YX mark t).size=(Yaa mark t).length:=List.size_toArray ..;rw[h3];unfold Yaa;simp only[List.length_cons,List.length_append];omega
 unfold YS;split
 ·exact h _
 ·split
  ·exact h _
  ·exact Nat.le_refl _
theorem Yrd:∀L:List Tk,Wt L L.length<=2*wTk (L.map kt)
 |[]=>by simp[Wt,wTk]
 |
  x::L=>by
  have ih:=Yrd L;unfold Wt at ih⊢;rw[List.take_length] at ih⊢;rw[List.map_cons,List.sum_cons,List.map_cons,wTk];have:=Yow x.kind x.text;have hx:tkW x=2*(x.text.size+1):=rfl;show tkW x+_<=2*((YS x.kind x.text).size+1+_);omega
theorem Yp7 {s:ByteArray}{m:Md}{j:Nat}(h:readB s= .ok m j):m.wt<=10*s.size:=by
 unfold readB at h;split at h
 ·cases h
 ·rename_i l sp hs
  have h1:=Ykp l _ _ _ _ _ _ h;have h2:=Yd7 hs;have h3:=Yrd l;have h4:=Yre l (i:=j);have z:Wt l 0=0:=rfl;have z2:(⟨[],[]⟩:Md).wt=0:=rfl;omega
end Go.Proofs.YteamjdmhdfjopaaGreatDoor
