/- A part of the proof; it holds the texts Rfv Rfw Rfx (names and blanks shortened). -/
import Derived.Test.YteamjdmhdfjopaaGreatDoorM5
import Derived.Test.YteamjdmhdfjopaaGreatDoorM44
import Derived.Test.YteamjdmhdfjopaaGreatDoorM2
import Derived.Test.YteamjdmhdfjopaaGreatDoorM18
import Derived.Test.YteamjdmhdfjopaaGreatDoorM19
import Derived.BigRegion
import Derived.Test.YteamjdmhdfjopaaGreatDoorM36
import Derived.StillTailTactics
namespace Go.Proofs.YteamjdmhdfjopaaGreatDoor
open Go.RowKit
set_option maxRecDepth 100000
set_option maxHeartbeats 8000000
set_option linter.unusedVariables false
set_option linter.unusedSimpArgs false
set_option linter.unnecessarySimpa false
structure SmS (A:Ss)(ao bo:Option Addr)(w wr:World)(k:Nat)(ra:Ss):Prop where
 len:k+ra.len=A.len
 tailA:ra≠.nil->∃g o,ao=some ⟨g,o,none⟩/\g<w.heap.size/\ra.at wr (fun k=>k<w.heap.size) g (o+k*5)
 tailB:ra≠.nil->∃g o,bo=some ⟨g,o,none⟩/\g<w.heap.size/\ra.at wr (fun k=>k<w.heap.size) g (o+k*5)
 below:Below w.heap.size w wr
 fine:ra.fine
 sz:ra.sz<=A.sz
theorem Yko {w:World}{D:Nat->Prop}{v:Value}{l:Ss}(h:SsV w D v l):∃ao cap,v= .slice ao l.len cap:=by obtain⟨a,c,e,_⟩:=h; exact⟨a,c,e⟩
theorem Yj6 {w:World}{D:Nat->Prop}{v:Value}{l:List (Ts×Ts)}(h:Jv w D v l):∃ao cap,v= .slice ao l.length cap:=by obtain⟨a,c,e,_⟩:=h; exact⟨a,c,e⟩
theorem YlV {w W:World}{a b:Obj}(h:((w.alloc a).alloc b).drew=W):W.heap[w.heap.size]? =some a/\W.heap[w.heap.size+1]? =some b/\Below w.heap.size w W:=by
 subst h;obtain⟨h1,h2,h3,_⟩:=YaP w a b;exact⟨h1,h2,below_drewN h3 1⟩
theorem YeF:∀(m:Nat) (A:Ss) (va vb:Value) (w:World),A.sz<m->SsV w (fun k=>k<w.heap.size) va A->SsV w (fun k=>k<w.heap.size) vb A->A.fine->A.len<=1000000000000->
 Calls Tryz.prog 17 #[va,vb] w fun e w'=>e= .returned (.bool true)/\Below w.heap.size w w':=by
 intro m;induction m with
 |zero=>intro A va vb w hm; omega
 |
  succ m ih=>
  intro A va vb w hm hA hB hfine hbig;obtain⟨ao,ca,rfl,htA⟩:=hA;obtain⟨bo,cb,rfl,htB⟩:=hB;have IH:Hid _:=ih;have HM:=Zh hm;have HS0:Hid (SmS A ao bo w w 0 A):=Zh ⟨Nat.zero_add _,fun h=>by obtain⟨g,o,e,hS,hat⟩:=htA h; exact⟨g,o,e,hS,by simpa using hat⟩,fun h=>by obtain⟨g,o,e,hS,hat⟩:=htB h; exact⟨g,o,e,hS,by simpa using hat⟩,Below.refl _ _,hfine,Nat.le_refl _⟩;clear ih hm htA htB hfine;go_enter Tryz.func17,Tryz.ntmps17;go_wp2;go_loopw [5] (fun i wr=>∃(k:Nat) (ra:Ss),i= .int .i64 k/\Hid (SmS A ao bo w wr k ra)) (fun i _=>A.len - (intOf i).toNat)
  case atStart=>exact⟨0,A,rfl,HS0⟩
  case round=>
   clear HS0;obtain⟨k,ra,rfl,HS⟩:=hrel;have hlA:=HS.out.len;cases ra with
   |
    nil=>
    have hk:k=A.len:=by simpa[Ss.len] using hlA
    have l0:decide ((k:Int)<(A.len:Int))=false:=Zf;have l1:decide (k<A.len)=false:=Zf;clear hk hlA;go_wp2;go_ret;exact⟨rfl,HS.out.below⟩
   |
    cons left tests right subject block rest=>
    simp only[Ss.len] at hlA;have l0:decide ((k:Int)<(A.len:Int))=true:=Zt;have l1:decide (k<A.len)=true:=Zt;obtain⟨g,o,rfl,hg,⟨v0,a0,h0⟩,⟨v1,a1,h1⟩,⟨v2,a2,h2⟩,⟨v3,a3,h3⟩,⟨a4o,a4c,a4,hbA⟩,hrA⟩:=HS.out.tailA (fun q=>by cases q);obtain⟨h,p,rfl,hh,⟨u0,b0,q0⟩,⟨u1,b1,q1⟩,⟨u2,b2,q2⟩,⟨u3,b3,q3⟩,⟨b4o,b4c,b4,hbB⟩,hrB⟩:=HS.out.tailB (fun q=>by cases q);have hb4:SsV wr (fun k=>k<w.heap.size) (.slice a4o block.len a4c) block:=⟨a4o,a4c,rfl,hbA⟩;have hc4:SsV wr (fun k=>k<w.heap.size) (.slice b4o block.len b4c) block:=⟨b4o,b4c,rfl,hbB⟩;obtain⟨ao0,ca0,rfl⟩:=h0.form;obtain⟨ao1,ca1,rfl⟩:=Yj6 h1;obtain⟨ao2,ca2,rfl⟩:=h2.form;obtain⟨ao3,ca3,rfl⟩:=h3.form;obtain⟨bo0,cb0,rfl⟩:=q0.form;obtain⟨bo1,cb1,rfl⟩:=Yj6 q1;obtain⟨bo2,cb2,rfl⟩:=q2.form;obtain⟨bo3,cb3,rfl⟩:=q3.form;have HV:=Zh (And.intro h0 (And.intro h1 (And.intro h2 (And.intro h3 hb4))));have HU:=Zh (And.intro q0 (And.intro q1 (And.intro q2 (And.intro q3 hc4))));have HR:=Zh (And.intro hrA hrB);have HFI:=Zh HS.out.fine;clear h0 h1 h2 h3 q0 q1 q2 q3 hbA hbB hrA hrB hb4 hc4;have hsz:=HS.out.below.size;have hgw:g<wr.heap.size:=Zo;have hhw:h<wr.heap.size:=Zo;have hkA:k<A.len:=Zo;have hkB:(k:Int)<(A.len:Int):=Zo;obtain⟨wo,hwo⟩:∃x,x=wr:=⟨_,rfl⟩;subst hwo;go_wp2_with fail;go_region
    all_goals
     generalize hW1:(World.alloc (World.alloc wo _) _).drew=W1;obtain⟨r0,r1,hbW⟩:=YlV hW1;clear hW1;obtain⟨x0,x1,x2,x3,x4⟩:=row5 r0;obtain⟨y0,y1,y2,y3,y4⟩:=row5 r1;go_wp2_with fail;refine(Ybj (fun k=>k<w.heap.size) left left _ _ W1 (HV.out.1.keep (fun k _ hk=>hbW.block k hk) (fun k q _=>q)) (HU.out.1.keep (fun k _ hk=>hbW.block k hk) (fun k q _=>q)) HFI.out.1.1 HFI.out.1.1).mono ?_;rintro e w' ⟨rfl,n1,rfl⟩;rw[decide_eq_true (rfl:left=left)];have hb1:Below W1.heap.size W1 (W1.drewN n1):=below_drewN (Below.refl _ _) _;have hbW:=hbW.trans (hb1.mono hbW.size);have r0:=(hb1.block _ (Zg r0).1).trans r0;have r1:=(hb1.block _ (Zg r1).1).trans r1;generalize W1.drewN n1=W2 at hbW r0 r1 hb1⊢;clear hb1;clear x0 x1 x2 x3 x4 y0 y1 y2 y3 y4;obtain⟨x0,x1,x2,x3,x4⟩:=row5 r0;obtain⟨y0,y1,y2,y3,y4⟩:=row5 r1;go_wp2_with fail;refine(Ybj (fun k=>k<w.heap.size) right right _ _ W2 (HV.out.2.2.1.keep (fun k _ hk=>hbW.block k hk) (fun k q _=>q)) (HU.out.2.2.1.keep (fun k _ hk=>hbW.block k hk) (fun k q _=>q)) HFI.out.2.2.1.1 HFI.out.2.2.1.1).mono ?_;rintro e w' ⟨rfl,n2,rfl⟩;rw[decide_eq_true (rfl:right=right)];have hb2:Below W2.heap.size W2 (W2.drewN n2):=below_drewN (Below.refl _ _) _;have hbW:=hbW.trans (hb2.mono hbW.size);have r0:=(hb2.block _ (Zg r0).1).trans r0;have r1:=(hb2.block _ (Zg r1).1).trans r1;generalize W2.drewN n2=W3 at hbW r0 r1 hb2⊢;clear hb2;clear x0 x1 x2 x3 x4 y0 y1 y2 y3 y4;obtain⟨x0,x1,x2,x3,x4⟩:=row5 r0;obtain⟨y0,y1,y2,y3,y4⟩:=row5 r1;go_wp2_with fail;refine(Ybj (fun k=>k<w.heap.size) subject subject _ _ W3 (HV.out.2.2.2.1.keep (fun k _ hk=>hbW.block k hk) (fun k q _=>q)) (HU.out.2.2.2.1.keep (fun k _ hk=>hbW.block k hk) (fun k q _=>q)) HFI.out.2.2.2.1.1 HFI.out.2.2.2.1.1).mono ?_;rintro e w' ⟨rfl,n3,rfl⟩;rw[decide_eq_true (rfl:subject=subject)];have hb3:Below W3.heap.size W3 (W3.drewN n3):=below_drewN (Below.refl _ _) _;have hbW:=hbW.trans (hb3.mono hbW.size);have r0:=(hb3.block _ (Zg r0).1).trans r0;have r1:=(hb3.block _ (Zg r1).1).trans r1;generalize W3.drewN n3=W4 at hbW r0 r1 hb3⊢;clear hb3;clear x0 x1 x2 x3 x4 y0 y1 y2 y3 y4;obtain⟨x0,x1,x2,x3,x4⟩:=row5 r0;obtain⟨y0,y1,y2,y3,y4⟩:=row5 r1;go_wp2_with fail;have hz4:=hbW.size;refine(IH.out block _ _ W4 (by have h1:=HM.out; have h2:=HS.out.sz; simp only[Ss.sz] at h2; omega) (HV.out.2.2.2.2.keep (T:=fun k=>k<W4.heap.size) (fun k _ hk=>hbW.block k hk) (fun k _ hk=>Nat.lt_of_lt_of_le hk hz4)) (HU.out.2.2.2.2.keep (T:=fun k=>k<W4.heap.size) (fun k _ hk=>hbW.block k hk) (fun k _ hk=>Nat.lt_of_lt_of_le hk hz4)) HFI.out.2.2.2.2.1.1 HFI.out.2.2.2.2.1.2).mono ?_;rintro e W5 ⟨rfl,hb5⟩;have hbW:=hbW.trans (hb5.mono hbW.size);have r0:=(hb5.block _ (Zg r0).1).trans r0;have r1:=(hb5.block _ (Zg r1).1).trans r1;clear x0 x1 x2 x3 x4 y0 y1 y2 y3 y4;clear hb5 hz4;have HR0:=Zh r0;have HR1:=Zh r1;have HBW:=Zh hbW;have hlt0:=(Zg r0).1;have hlt1:=(Zg r1).1;clear r0 r1 hbW;go_wp2;go_loopw [8] (fun i wr=>∃j:Nat,i= .int .i64 j/\j<=tests.length/\Hid (Below wo.heap.size wo wr/\wr.heap[wo.heap.size]? =W5.heap[wo.heap.size]?/\wr.heap[wo.heap.size+1]? =W5.heap[wo.heap.size+1]?)) (fun i _=>tests.length - (intOf i).toNat)
     case atStart=>exact⟨0,rfl,Nat.zero_le _,Zh ⟨HBW.out,rfl,rfl⟩⟩
     case round=>
      obtain⟨j,rfl,hj,HQ⟩:=hrel;have r0:=HQ.out.2.1.trans HR0.out;have r1:=HQ.out.2.2.trans HR1.out;have hbQ:=HQ.out.1;obtain⟨x0,x1,x2,x3,x4⟩:=row5 r0;obtain⟨y0,y1,y2,y3,y4⟩:=row5 r1;by_cases hjl:j<tests.length
      ·have i0:decide ((j:Int)<(tests.length:Int))=true:=Zt;have i1:decide (j<tests.length)=true:=decide_eq_true hjl;have i2:(j:Int)<(tests.length:Int):=Zo;have htl:=HFI.out.2.1.2;have i3:(0:Int)<=(j:Int)+1:=Zo;have i4:(j:Int)+1<=1000000000000:=Zo;have hne:tests≠[]:=fun q=>by rw[q] at hjl; cases hjl
       obtain⟨aq,cq,eq1,hq1⟩:=HV.out.2.1;cases eq1;obtain⟨ga,oa,rfl,hga,hata⟩:=hq1 hne;obtain⟨bq,dq,eq2,hq2⟩:=HU.out.2.1;cases eq2;obtain⟨gb,ob,rfl,hgb,hatb⟩:=hq2 hne;obtain⟨⟨p0,c0,t0⟩,⟨p1,c1,t1⟩⟩:=YbY tests ga oa j (YaW tests ga oa (.inl hga) hata (fun k _ hk=>hbQ.block k hk) (fun k q _=>q)) hjl;obtain⟨⟨p2,c2,t2⟩,⟨p3,c3,t3⟩⟩:=YbY tests gb ob j (YaW tests gb ob (.inl hgb) hatb (fun k _ hk=>hbQ.block k hk) (fun k q _=>q)) hjl;obtain⟨f0,f1⟩:=Ydo tests j HFI.out.2.1.1 hjl;have HE0:=Zh (fun n=>Ybj (fun k=>k<w.heap.size) tests[j].1 tests[j].1 p0 p2 (wr.drewN n) (t0.keep (w':=wr.drewN n) (fun _ _ _=>rfl) (fun _ q _=>q)) (t2.keep (w':=wr.drewN n) (fun _ _ _=>rfl) (fun _ q _=>q)) f0.1 f0.1);have HE1:=Zh (fun n=>Ybj (fun k=>k<w.heap.size) tests[j].2 tests[j].2 p1 p3 (wr.drewN n) (t1.keep (w':=wr.drewN n) (fun _ _ _=>rfl) (fun _ q _=>q)) (t3.keep (w':=wr.drewN n) (fun _ _ _=>rfl) (fun _ q _=>q)) f1.1 f1.1);rw[decide_eq_true (rfl:tests[j].1=tests[j].1)] at HE0;rw[decide_eq_true (rfl:tests[j].2=tests[j].2)] at HE1;obtain⟨pa0,pc0,rfl⟩:=t0.form;obtain⟨pa1,pc1,rfl⟩:=t1.form;obtain⟨pa2,pc2,rfl⟩:=t2.form;obtain⟨pa3,pc3,rfl⟩:=t3.form;clear t0 t1 t2 t3 hata hatb hq1 hq2 f0 f1 r0 r1;go_wp2_with fail;go_quiet ((go_at_call 58; first | exact YdH HE0.out | exact YdH HE1.out | exact Calls.quiet_of (HE0.out _) | exact Calls.quiet_of (HE1.out _)))
       go_wp2;go_roundw
       case rel=>exact⟨j+1,by go_num,by omega,Zh ⟨below_drewN HQ.out.1 _,HQ.out.2⟩⟩
       case measure=>simp[intOf]; omega
      ·have i0:decide ((j:Int)<(tests.length:Int))=false:=Zf;have i1:decide (j<tests.length)=false:=decide_eq_false hjl;clear r0 r1;have HREL2:Hid (∃(k':Nat) (ra:Ss),Value.int .i64 ((k:Int)+1)= .int .i64 k'/\Hid (SmS A (some ⟨g,o,none⟩) (some ⟨h,p,none⟩) w wr k' ra)):=Zh ⟨k+1,rest,by go_num,Zh ⟨by omega,fun hn=>⟨g,o,rfl,hg,by rw[show o+(k+1)*5=o+k*5+5 by omega]; exact Ss.at_keep rest g _ (.inl hg) HR.out.1 (fun k _ hk=>hbQ.block k hk) (fun k q _=>q)⟩,fun hn=>⟨h,p,rfl,hh,by rw[show p+(k+1)*5=p+k*5+5 by omega]; exact Ss.at_keep rest h _ (.inl hh) HR.out.2 (fun k _ hk=>hbQ.block k hk) (fun k q _=>q)⟩,HS.out.below.trans (hbQ.mono HS.out.below.size),HFI.out.2.2.2.2.2,by have h2:=HS.out.sz; simp only[Ss.sz] at h2; omega⟩⟩;go_wp2;go_roundw
       case rel=>first | exact HREL2.out | (repeat (first | exact⟨HREL2.out,rfl⟩ | apply Exists.intro))
       case measure=>simp[intOf]; omega
theorem YdD (A:List Fn)(va vb:Value)(w:World)(hA:Yab w (fun k=>k<w.heap.size) va A)(hB:Yab w (fun k=>k<w.heap.size) vb A)(hf:∀f∈A,f.sents.fine/\f.sents.len<=1000000000000)(hbig:A.length<=1000000000000):
 Calls Tryz.prog 20 #[va,vb] w fun e w'=>e= .returned (.bool true)/\Below w.heap.size w w':=by
 obtain⟨ao,ca,rfl,htA⟩:=hA;obtain⟨bo,cb,rfl,htB⟩:=hB;have HTA:=Zh htA;have HTB:=Zh htB;have HFF:=Zh hf;clear htA htB hf;go_enter Tryz.func20,Tryz.ntmps20;go_wp2;go_loopw [5] (fun i wr=>∃k:Nat,i= .int .i64 k/\k<=A.length/\Hid (Below w.heap.size w wr)) (fun i _=>A.length - (intOf i).toNat)
 case atStart=>exact⟨0,rfl,Nat.zero_le _,Zh (Below.refl _ _)⟩
 case round=>
  obtain⟨k,rfl,hk,HB⟩:=hrel;by_cases hkl:k<A.length
  ·have l0:decide ((k:Int)<(A.length:Int))=true:=Zt;have l1:decide (k<A.length)=true:=decide_eq_true hkl;have l2:(k:Int)<(A.length:Int):=Zo;have i3:(0:Int)<=(k:Int)+1:=Zo;have i4:(k:Int)+1<=1000000000000:=Zo;have hne:A≠[]:=fun q=>by rw[q] at hkl; cases hkl
   obtain⟨g,o,rfl,hg,hat⟩:=HTA.out hne;obtain⟨h,p,rfl,hh,hbt⟩:=HTB.out hne;obtain⟨a0,a1,va2,a2,ha2⟩:=Yb9 A g o k (Ya1 A g o (.inl hg) hat (fun k _ hk=>HB.out.block k hk) (fun k q _=>q)) hkl;obtain⟨b0,b1,vb2,b2,hb2⟩:=Yb9 A h p k (Ya1 A h p (.inl hh) hbt (fun k _ hk=>HB.out.block k hk) (fun k q _=>q)) hkl;obtain⟨f1,f2⟩:=HFF.out A[k] (List.getElem_mem hkl);have hsz:=HB.out.size;have HSm:=Zh (fun(W:World) (hb:Below wr.heap.size wr W)=>YeF (A[k].sents.sz+1) A[k].sents va2 vb2 W Zo (ha2.keep (T:=fun k=>k<W.heap.size) (fun k _ hk=>hb.block k hk) (fun k q _=>Nat.lt_of_lt_of_le q (Nat.le_trans hsz hb.size))) (hb2.keep (T:=fun k=>k<W.heap.size) (fun k _ hk=>hb.block k hk) (fun k q _=>Nat.lt_of_lt_of_le q (Nat.le_trans hsz hb.size))) f1 f2);obtain⟨sa,sc,rfl⟩:=Yko ha2;obtain⟨sb,sd,rfl⟩:=Yko hb2;have e1:(A[k].name.toList != A[k].name.toList)=false:=Zs;have e2:(A[k].entry != A[k].entry)=false:=Zs;clear ha2 hb2 hat hbt f1 f2;generalize A[k]=f at a0 a1 a2 b0 b1 b2 e1 e2 HSm;go_wp2_with fail;go_still_tail 35,(by kernel_rfl)
   change wpList _ _ _ _ _ wr.drew;have hbd:Below wr.heap.size wr wr.drew:=below_drewN (Below.refl _ _) 1;generalize wr.drew=W2 at hbd⊢;go_wp2_with fail;refine(HSm.out W2 hbd).mono ?_;rintro e w9 ⟨rfl,hb9⟩;have hB9:=HB.out.trans ((hbd.trans (hb9.mono hbd.size)).mono HB.out.size);go_wp2;go_roundw
   case rel=>exact⟨k+1,by go_num,by omega,Zh hB9⟩
   case measure=>simp[intOf]; omega
  ·have l0:decide ((k:Int)<(A.length:Int))=false:=Zf;have l1:decide (k<A.length)=false:=decide_eq_false hkl;go_wp2;go_ret;exact⟨rfl,HB.out⟩
theorem Yh2 (m:Md)(ve vf ue uf:Value)(w:World)(hA:MdV w (fun k=>k<w.heap.size) ve vf m)(hB:MdV w (fun k=>k<w.heap.size) ue uf m)(hf:m.fine):
 Calls Tryz.prog 13 #[.agg #[ve,vf],.agg #[ue,uf]] w fun e w'=>e= .returned (.bool true)/\Below w.heap.size w w':=by
 obtain⟨h1,h2⟩:=hA;obtain⟨g1,g2⟩:=hB;obtain⟨h3,h4,h5⟩:=hf;obtain⟨ao,ca,rfl,hta⟩:=h1;obtain⟨bo,cb,rfl,htb⟩:=g1;obtain⟨aof,caf,rfl⟩:∃a c,vf= .slice a m.funcs.length c:=by obtain⟨a,c,e,_⟩:=h2; exact⟨a,c,e⟩
 obtain⟨bof,cbf,rfl⟩:∃a c,uf= .slice a m.funcs.length c:=by obtain⟨a,c,e,_⟩:=g2; exact⟨a,c,e⟩
 have HTA:=Zh hta;have HTB:=Zh htb;have HF:=Zh (fun(W:World) (hb:Below w.heap.size w W)=>YdD m.funcs (.slice aof m.funcs.length caf) (.slice bof m.funcs.length cbf) W (h2.keep (fun k _ hk=>hb.block k hk) (fun k q _=>Nat.lt_of_lt_of_le q hb.size)) (g2.keep (fun k _ hk=>hb.block k hk) (fun k q _=>Nat.lt_of_lt_of_le q hb.size)) h5 h4);obtain⟨hw1,hw2,hwb,hwz⟩:=YaP w (.cells #[.slice ao m.externs.length ca,.slice aof m.funcs.length caf] 30) (.cells #[.slice bo m.externs.length cb,.slice bof m.funcs.length cbf] 30);obtain⟨W0,hW0⟩:∃W0,W0=(w.alloc (.cells #[.slice ao m.externs.length ca,.slice aof m.funcs.length caf] 30)).alloc (.cells #[.slice bo m.externs.length cb,.slice bof m.funcs.length cbf] 30):=⟨_,rfl⟩;rw[<-hW0] at hw1 hw2 hwb;have HW:=Zh (And.intro hw1 (And.intro hw2 hwb));clear hta htb h2 g2 h4 h5 hw1 hw2 hwb hwz;go_enter Tryz.func13,Tryz.ntmps13;go_wp2;rw[<-hW0];clear hW0;obtain⟨hw1,hw2,hwb⟩:=HW.out;go_loopw [5] (fun i wr=>∃k:Nat,i= .int .i64 k/\k<=m.externs.length/\Hid (∃q,wr=W0.drewN q)) (fun i _=>m.externs.length - (intOf i).toNat)
 case atStart=>exact⟨0,rfl,Nat.zero_le _,Zh ⟨0,rfl⟩⟩
 case round=>
  obtain⟨k,rfl,hk,HQ⟩:=hrel;obtain⟨q,rfl⟩:=HQ.out;obtain⟨x0,x1⟩:=row2 hw1;obtain⟨y0,y1⟩:=row2 hw2;by_cases hkl:k<m.externs.length
  ·have l0:decide ((k:Int)<(m.externs.length:Int))=true:=Zt;have l1:decide (k<m.externs.length)=true:=decide_eq_true hkl;have l2:(k:Int)<(m.externs.length:Int):=Zo;have i3:(0:Int)<=(k:Int)+1:=Zo;have i4:(k:Int)+1<=1000000000000:=Zo;have hne:m.externs≠[]:=fun q=>by rw[q] at hkl; cases hkl
   obtain⟨g,o,rfl,hg,hat,_⟩:=HTA.out hne;obtain⟨h,p,rfl,hh,hbt,_⟩:=HTB.out hne;have a0:=strs_get m.externs g o k (YbA (fun o=>World.cell?_of_block (w:=w) (hwb.block g hg)) _ o hat) hkl;have b0:=strs_get m.externs h p k (YbA (fun o=>World.cell?_of_block (w:=w) (hwb.block h hh)) _ p hbt) hkl;generalize m.externs[k]=s at a0 b0;have e1:(s.toList != s.toList)=false:=Zs;clear hat hbt;go_wp2_with fail;go_quiet (fail)
   go_wp2;go_roundw
   case rel=>exact⟨k+1,by go_num,by omega,Zh (by(try simp only[World.drewN_drewN]); exact⟨_,rfl⟩)⟩
   case measure=>simp[intOf]; omega
  ·have l0:decide ((k:Int)<(m.externs.length:Int))=false:=Zf;have l1:decide (k<m.externs.length)=false:=decide_eq_false hkl;have hbq:Below w.heap.size w (W0.drewN q):=below_drewN hwb q;go_wp2_with fail;refine(HF.out _ hbq).mono ?_;rintro e w9 ⟨rfl,hb9⟩;go_wp2;go_ret;exact⟨rfl,hbq.trans (hb9.mono hbq.size)⟩
def Ybu:Rd Md->Md×Int×Int
 |.ok m _=>(m,0,0)
 |.bad a c=>(⟨[],[]⟩,a,c)
def Yf6:Rd Ss->Ss×Int×Int
 |.ok x _=>(x,0,0)
 |.bad a c=>(.cons .nil [] .nil .nil .nil .nil,a,c)
theorem MdV.zero (w:World)(S:Nat->Prop):MdV w S (.slice none 0 0) (.slice none 0 0) ⟨[],[]⟩:=⟨Yaa.nil w S,Yab.nil w S⟩
theorem YeD {w w':World}{R:Rd Md}{e:Ending}(h:YlX w R e w'):Below w.heap.size w w'/\∃ve vf,e= .returned (.tuple #[.agg #[ve,vf],.int .i64 (Ybu R).2.1,.int .i64 (Ybu R).2.2])/\MdV w' (fun k=>w.heap.size<=k) ve vf (Ybu R).1:=by
 obtain⟨hb,h⟩:=h;cases R with
 |ok m j=>obtain⟨ve,vf,rfl,h2⟩:=h; exact⟨hb,ve,vf,rfl,h2⟩
 |bad a c=>exact⟨hb,_,_,h,MdV.zero _ _⟩
theorem Yjm {w w':World}{R:Rd Md}{e:Ending}(h:Ynl w R e w'):Below w.heap.size w w'/\∃ve vf,e= .returned (.tuple #[.agg #[ve,vf],.int .i64 (Ybu R).2.1,.int .i64 (Ybu R).2.2])/\MdV w' (fun k=>w.heap.size<=k) ve vf (Ybu R).1:=by
 obtain⟨hb,h⟩:=h;cases R with
 |ok m j=>obtain⟨ve,vf,rfl,h2⟩:=h; exact⟨hb,ve,vf,rfl,h2⟩
 |bad a c=>exact⟨hb,_,_,h,MdV.zero _ _⟩
theorem Yc6 {w w':World}{R:Rd Md}{e:Ending}(h:Yir w R e w'):Below w.heap.size w w'/\∃vf,e= .returned (.tuple #[.agg #[vf],.int .i64 (Ybu R).2.1,.int .i64 (Ybu R).2.2])/\Yab w' (fun k=>w.heap.size<=k) vf (Ybu R).1.funcs:=by
 obtain⟨hb,h⟩:=h;cases R with
 |ok m j=>obtain⟨vf,rfl,h2⟩:=h; exact⟨hb,vf,rfl,h2⟩
 |bad a c=>exact⟨hb,_,h,Yab.nil _ _⟩
theorem Yoh (w:World)(S:Nat->Prop):(Ss.cons .nil [] .nil .nil .nil .nil).flat w S [.slice none 0 0,.slice none 0 0,.slice none 0 0,.slice none 0 0,.slice none 0 0]:=
 ⟨_,_,_,_,_,[],rfl,TsV.nil _ _,Jv.nil _ _,TsV.nil _ _,TsV.nil _ _,SsV.nil _ _,rfl⟩
theorem YiF {w w':World}{R:Rd Ss}{e:Ending}(h:Ynk w R e w'):Below w.heap.size w w'/\∃v0 v1 v2 v3 v4,e= .returned (.tuple #[.agg #[v0,v1,v2,v3,v4],.int .i64 (Yf6 R).2.1,.int .i64 (Yf6 R).2.2])/\(Yf6 R).1.flat w' (fun k=>w.heap.size<=k) [v0,v1,v2,v3,v4]:=by
 obtain⟨hb,h⟩:=h;cases R with
 |ok x j=>obtain⟨v0,v1,v2,v3,v4,rfl,h2⟩:=h; exact⟨hb,v0,v1,v2,v3,v4,rfl,h2⟩
 |bad a c=>exact⟨hb,_,_,_,_,_,h,Yoh _ _⟩
theorem YkC {w w':World}{R:Rd Ss}{e:Ending}(h:YoE w R e w'):Below w.heap.size w w'/\∃v0 v1 v2 v3 v4,e= .returned (.tuple #[.agg #[v0,v1,v2,v3,v4],.int .i64 (Yf6 R).2.1,.int .i64 (Yf6 R).2.2])/\(Yf6 R).1.flat w' (fun k=>w.heap.size<=k) [v0,v1,v2,v3,v4]:=by
 obtain⟨hb,h⟩:=h;cases R with
 |ok x j=>obtain⟨v0,v1,v2,v3,v4,rfl,h2,_⟩:=h; exact⟨hb,v0,v1,v2,v3,v4,rfl,h2⟩
 |bad a c=>exact⟨hb,_,_,_,_,_,h,Yoh _ _⟩
theorem Yb7:Md.fine ⟨[],[]⟩:=⟨Nat.zero_le _,Nat.zero_le _,fun f hf=>by cases hf⟩
theorem YgK {s:ByteArray}(hs:s.size<=40000):(Ybu (readB s)).1.fine:=by
 cases h:readB s with
 |ok m j=>exact Yhh hs h
 |bad a c=>exact Yb7
theorem Yj8 {s:ByteArray}(h0:(Ybu (readB s)).2.2=0):Ybm (Ybu (readB s)).1=0:=by
 cases h:readB s with
 |ok m j=>exact Yhg h
 |bad a c=>rw[h] at h0; exact absurd h0 (Ycq s a c h)
theorem Yj7 {s:ByteArray}(hs:s.size<=40000):(Ybu (Yh4 s)).1.fine:=by
 unfold Yh4;cases h:readB s with
 |
  ok m j=>
  unfold Yjt;dsimp only;split
  ·exact Yhh hs h
  ·exact Yb7
 |bad a c=>exact Yb7
theorem Ynm:(Ss.cons .nil [] .nil .nil .nil .nil).fine:=by
 have h:Ts.fine .nil:=⟨by simp[Ts.nodes],trivial⟩;exact⟨h,⟨trivial,by simp⟩,h,h,⟨trivial,by simp[Ss.len]⟩,trivial⟩
theorem Yja {s:ByteArray}(hs:s.size<=40000):(Yf6 (YbS s)).1.fine/\(Yf6 (YbS s)).1.len=1:=by
 cases h:YbS s with
 |bad a c=>exact⟨Ynm,rfl⟩
 |
  ok x j=>
  show x.fine/\x.len=1;rw[YeE] at h;unfold Ycz at h;split at h
  ·cases h
  ·rename_i l sp hsc
   have hl:=(Ycn hsc).1;unfold Ymn at h;obtain⟨left,j1,h1,h⟩:=Rd.bind_inv h;obtain⟨y,k,h2,h⟩:=Rd.bind_inv h;split at h
   ·unfold YQ at h; cases h
   ·cases h;obtain⟨h3,h4⟩:=Yes (Yco hsc) s.size _ _ _ _ _ _ _ (Ycg (pat:=true) (Yco hsc) h1) rfl h2;exact⟨Ygd (K:=l.length) Zo _ 0 h3 (Yer _ _ _ _ _ _ _ (Nat.zero_le _) h2),h4⟩
theorem YiC {w:World}{S:Nat->Prop}{x:Ss}{v0 v1 v2 v3 v4:Value}(hx:x.flat w S [v0,v1,v2,v3,v4])(hl:x.len=1)(hS:∀k,S k->k<w.heap.size->k<(w.alloc (.cells #[v0,v1,v2,v3,v4] 39)).heap.size):
 SsV (w.alloc (.cells #[v0,v1,v2,v3,v4] 39)) (fun k=>k<(w.alloc (.cells #[v0,v1,v2,v3,v4] 39)).heap.size) (.slice (some ⟨w.heap.size,0,none⟩) 1 1) x:=by
 refine⟨some ⟨w.heap.size,0,none⟩,1,by rw[hl],fun _=>⟨w.heap.size,0,rfl,by simp,?_⟩⟩;exact Ss.at_of_flat x _ w.heap.size 0 (Ss.flat_keep _ _ hx (fun k _ hk=>(below_alloc1 w _).block k hk) hS) (YnC w v0 v1 v2 v3 v4 39)
end Go.Proofs.YteamjdmhdfjopaaGreatDoor
