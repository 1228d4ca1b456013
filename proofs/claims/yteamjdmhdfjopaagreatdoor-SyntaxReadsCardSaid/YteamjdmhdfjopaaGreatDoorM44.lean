/- A part of the proof; it holds the texts Rfp Rfq Rfr Rfs Rft (names and blanks shortened). -/
import Derived.Test.YteamjdmhdfjopaaGreatDoorM43
import Derived.Test.YteamjdmhdfjopaaGreatDoorM40
import Derived.Test.YteamjdmhdfjopaaGreatDoorM38
import Derived.Test.YteamjdmhdfjopaaGreatDoorM18
import Derived.Test.YteamjdmhdfjopaaGreatDoorM36
namespace Go.Proofs.YteamjdmhdfjopaaGreatDoor
open Go.RowKit
set_option maxRecDepth 100000
set_option maxHeartbeats 8000000
set_option linter.unusedVariables false
set_option linter.unusedSimpArgs false
set_option linter.unnecessarySimpa false
def tokL (s:ByteArray):List Tk:=match Yax s with
 |.ok l _=>l
 |.bad _ _=>[]
def begR (s:ByteArray):Rd Unit:=Ycz s fun _=>.ok () 0
theorem Yil {s:ByteArray}{u:Unit}{i:Nat}(h:begR s= .ok u i):i=0:=by
 unfold begR Ycz at h;cases hs:Yax s with
 |ok l sp=>rw[hs] at h; cases h; rfl
 |bad c x=>rw[hs] at h; cases h
theorem YfD {α:Type}(s:ByteArray)(f:List Tk->Rd α):Ycz s f=(begR s).bind fun _ _=>f (tokL s):=by
 unfold begR Ycz tokL;cases Yax s<;>rfl
theorem Yfs (s:ByteArray)(hs:s.size<=40000):RL (tokL s):=by
 unfold tokL;cases h:Yax s with
 |bad c x=>exact⟨Nat.zero_le _,(fun x q=>by cases q),(fun x q=>by cases q),(fun x q=>by cases q)⟩
 |
  ok l sp=>
  have h1:=Ycn h;have h2:=Yco h;refine⟨Nat.le_trans h1.1 hs,fun x q=>Nat.le_trans (h1.2 x q) hs,fun x q hk=>?_,fun x q hk=>?_⟩
  ·have:=h2 x q;unfold okB at this;rw[hk] at this;simp at this;exact this.1
  ·have:=h2 x q;unfold okB at this;rw[hk] at this;simp[YbU] at this;intro hz;have hl:x.text.toList.length=1:=by rw[<-hz,Lib.toList_data]; rfl
   rcases this with e | e<;>rw[e] at hl<;>simp at hl
theorem YfE (s:ByteArray)(w:World)(hs:s.size<=40000):
 Calls Tryz.prog 44 #[.string s] w fun e w'=>Below w.heap.size w w'/\∃ao cap r,e= .returned r/\rSt ao cap (tokL s) s.size (begR s) r/\RTok ao (tokL s) w':=by
 have hS:=YkQ s (w.alloc (.cells #[.slice none 0 0,.int .i64 0,.int .i64 0,.int .i64 0,.int .i64 0] 85)) hs;have hcod:(begR s).coded:=YcR fun l=>Rd.coded_ok _ _;have hb0:=below_alloc1 w (.cells #[.slice none 0 0,.int .i64 0,.int .i64 0,.int .i64 0,.int .i64 0] 85);have hn0:=heap_alloc_new w (.cells #[.slice none 0 0,.int .i64 0,.int .i64 0,.int .i64 0,.int .i64 0] 85);have HH:=Zh (And.intro hb0 hn0);unfold begR Ycz at hcod⊢;unfold tokL;generalize Yax s=Q at hS hcod⊢;clear hb0 hn0;go_enter Tryz.func44,Tryz.ntmps44;go_wp2_with fail;refine hS.mono ?_;clear hS;rintro e w1 ⟨hb1,hP⟩;have hn1:=(hb1.block w.heap.size Zs).trans HH.out.2;have HB1:=Zh (HH.out.1.trans (hb1.mono Zs));have HN1:=Zh hn1;obtain⟨z0,z1,z2,z3,z4⟩:=row5 hn1;obtain⟨f0,f1,f2,f3,f4⟩:=frz5 hn1;clear hb1 hn1;cases Q with
 |
  bad c x=>
  subst hP;have hc:=hcod x c rfl;go_wp2;obtain q1:=Yx w1 w.heap.size _ _ _ _ _ (.slice none 0 0) (.int .i64 0) (.int .i64 s.size) (.int .i64 x) (.int .i64 c) HN1.out;have k:=Yw w1 w.heap.size (.slice none 0 0) (.int .i64 0) (.int .i64 s.size) (.int .i64 x) (.int .i64 c);refine bodyPost_ret (results_cell_row rfl _ _ w.heap.size 85 _ (0,0) _ rfl q1 Tryz.underlying85 rfl Yy) rfl ⟨HB1.out.trans (k.below HB1.out.size (fun i hi q=>by have q:i=w.heap.size:=q; omega)),none,0,_,rfl,⟨0,x,c,rfl,rfl,rfl,hc⟩,fun q=>absurd rfl q⟩
 |
  ok l sp=>
  obtain⟨vo,rfl,ho⟩:=hP;obtain⟨ao,cap,rfl,hrow⟩:=Ym8 ho;have HROW:=Zh hrow;clear ho hrow;go_wp2;obtain q1:=Yx w1 w.heap.size _ _ _ _ _ (.slice ao l.length cap) (.int .i64 0) (.int .i64 s.size) (.int .i64 0) (.int .i64 0) HN1.out;have k:=Yw w1 w.heap.size (.slice ao l.length cap) (.int .i64 0) (.int .i64 s.size) (.int .i64 0) (.int .i64 0);refine bodyPost_ret (results_cell_row rfl _ _ w.heap.size 85 _ (0,0) _ rfl q1 Tryz.underlying85 rfl Yy) rfl ⟨HB1.out.trans (k.below HB1.out.size (fun i hi q=>by have q:i=w.heap.size:=q; omega)),ao,cap,_,rfl,⟨0,0,0,rfl,rfl,rfl,rfl,Nat.zero_le _⟩,fun hne=>?_⟩;obtain⟨g,e1,hg,hB,hc⟩:=HROW.out hne;have hgw:¬g=w.heap.size:=by simp at hB; omega
  exact⟨g,0,e1,Nat.lt_of_lt_of_le hg k.size,fun j hj=>⟨(k.cell (p:=⟨g,_,none⟩) hg hgw).trans (hc j hj).1,(k.cell (p:=⟨g,_,none⟩) hg hgw).trans (hc j hj).2.1,(k.cell (p:=⟨g,_,none⟩) hg hgw).trans (hc j hj).2.2⟩⟩
theorem JH {P:Program}{fn:Func}{p q r:Tmp}{ty:TypeId}(h:fn.results=#[.cell p ty,.tmp q,.tmp r])(tmps:Array Value)(w:World)(g:Nat)(t:TypeId)(cs:Array Value)(d:TypeDesc)(x y:Value)
 (hp:tmps.getD p undef= .pointer (some ⟨g,0,none⟩))(hq:tmps.getD q undef=x)(hr:tmps.getD r undef=y)(hg:w.heap[g]? =some (.cells cs t (0,0)))
 (hu:P.underlying ty=some d)(hd:(match d with | .struct _ | .array _ _=>true | _=>false)=true)(hi:(P.info? ty).map (·.size)=some cs.size):
 (results fn tmps).run P w= .ok (.tuple #[.agg cs,x,y]) w:=by
 have hp':tmps[p]?.getD undef= .pointer (some ⟨g,0,none⟩):=by simpa using hp
 have hq':tmps[q]?.getD undef=x:=by simpa using hq
 have hr':tmps[r]?.getD undef=y:=by simpa using hr
 simp[results,h,hp',hq',hr',asAddr,run_loadVar_row w g t ty cs (0,0) d hg hu hd hi]
def YoE (w:World)(Q:Rd Ss)(e:Ending)(w':World):Prop:=Below w.heap.size w w'/\match Q with
 |.ok x _=>∃v0 v1 v2 v3 v4,e= .returned (.tuple #[.agg #[v0,v1,v2,v3,v4],.int .i64 0,.int .i64 0])/\x.flat w' (fun k=>w.heap.size<=k) [v0,v1,v2,v3,v4]/\x.len=1
 |.bad a c=>e= .returned (.tuple #[.agg #[.slice none 0 0,.slice none 0 0,.slice none 0 0,.slice none 0 0,.slice none 0 0],.int .i64 a,.int .i64 c])
theorem Yjo (s:ByteArray):YbS s=((begR s).bind fun _ i=>Yg (tokL s) s.size ((tokL s).length+4) 0 i).bind (endR (tokL s) s.size):=by
 rw[YeE,YfD];have h0:=fun u i=>Yil (s:=s) (u:=u) (i:=i);generalize begR s=B at h0⊢;cases B with
 |bad=>rfl
 |
  ok u i=>
  obtain rfl:=h0 u i rfl;exact YiD s (tokL s)
theorem YdE (s:ByteArray)(w:World)(hs:s.size<=40000):
 Calls Tryz.prog 16 #[.string s] w (YoE w (YbS s)):=by
 have HL:=Zh (Yfs s hs);have hB:=YfE s (w.alloc (.cells #[.slice none 0 0,.slice none 0 0,.slice none 0 0,.slice none 0 0,.slice none 0 0] 39)) hs;have HN0:=Zh (heap_alloc_new w (.cells #[.slice none 0 0,.slice none 0 0,.slice none 0 0,.slice none 0 0,.slice none 0 0] 39));have HB0:=Zh (below_alloc1 w (.cells #[.slice none 0 0,.slice none 0 0,.slice none 0 0,.slice none 0 0,.slice none 0 0] 39));have HQ:=Zh (Yjo s);generalize YbS s=Q at HQ⊢;go_enter Tryz.func16,Tryz.ntmps16;go_wp2_with fail;refine hB.mono ?_;clear hB;rintro e w1 ⟨hb1,ao,cap,r,rfl,hX0,hT1⟩;obtain⟨i,a,c,rfl,hst⟩:=hX0;have hSn:=Yhb ao cap (tokL s) s.size HL.out (begR s) (fun _ _ q=>Yil q) _ w1 ⟨i,a,c,rfl,hst⟩ hT1;have HN1:=Zh ((hb1.block w.heap.size Zs).trans HN0.out);have HB1:=Zh (HB0.out.trans (hb1.mono Zs));have HT1:=Zh hT1;clear hst hb1 hT1;unfold rV at hSn⊢;go_wp2_with fail;refine hSn.mono ?_;clear hSn;rintro e w2 ⟨hb2,r',v0,v1,v2,v3,v4,sx,rfl,hX1,hfl,hlen,hsx⟩;obtain⟨j1,a1,c1,rfl,hst1⟩:=hX1;obtain⟨b0,m0,d0,b1,m1,d1,b2,m2,d2,b3,m3,d3,b4,m4,d4,rfl,rfl,rfl,rfl,rfl⟩:=Ydr hlen hfl;have hlt1:w.heap.size<w1.heap.size:=(Zg HN1.out).1;have HN2:=Zh ((hb2.block w.heap.size hlt1).trans HN1.out);have HB2:=Zh (HB1.out.trans (hb2.mono HB1.out.size));have HT2:=Zh (HT1.out.below hb2);have HFL:=Zh (Ss.flat_keep (T:=fun k=>w.heap.size<k) _ _ hfl (fun _ _ _=>rfl) (fun k q _=>by have q:w1.heap.size<=k:=q; omega));have hlt2:w.heap.size<w2.heap.size:=(Zg HN2.out).1;have HF2:Hid (Fr w2 ((w2.alloc (.cells #[.slice none 0 0,.int .i64 0,.int .i64 0,.int .i64 0,.int .i64 0] 85)).alloc (.cells #[.slice none 0 0,.slice none 0 0,.slice none 0 0,.slice none 0 0,.slice none 0 0] 39)) [(#[.slice none 0 0,.int .i64 0,.int .i64 0,.int .i64 0,.int .i64 0],85),(#[.slice none 0 0,.slice none 0 0,.slice none 0 0,.slice none 0 0,.slice none 0 0],39)]):=Zh (((Fr.start w2).alloc Zs _ _).alloc Zs _ _);have HST:=Zh (And.intro hst1 (And.intro hlen hsx));clear hb2 hfl hlen hsx;generalize((begR s).bind fun _ i=>Yg (tokL s) s.size ((tokL s).length+4) 0 i)=X1 at HQ HST hst1;cases X1 with
 |
  bad A C=>
  obtain⟨rfl,rfl,hC⟩:=hst1;have hq1:(c1==0)=false:=by simpa using hC
  have hq2:(c1 != 0)=true:=by simpa using hC
  have HRQ:Hid (Q= .bad A c1):=Zh HQ.out;clear hC;unfold rV;go_wp2_with (
   first
   |(
     refine wpList_store_row rfl 85 (.tmp 5) (.tmp 11) rfl w2.heap.size #[.slice ao (tokL s).length cap,.int .i64 j1,.int .i64 s.size,.int .i64 A,.int .i64 c1] rfl rfl 85 _ (HF2.out.at 0 rfl rfl) Yy rfl (YR _ _ _ _ _ _ _ _) ?_;have HF3:=Zh (HF2.out.setRowAt 0 rfl #[.slice ao (tokL s).length cap,.int .i64 j1,.int .i64 s.size,.int .i64 A,.int .i64 c1] rfl);generalize World.setRow ((w2.alloc (.cells #[.slice none 0 0,.int .i64 0,.int .i64 0,.int .i64 0,.int .i64 0] 85)).alloc (.cells #[.slice none 0 0,.slice none 0 0,.slice none 0 0,.slice none 0 0,.slice none 0 0] 39)) w2.heap.size #[.slice ao (tokL s).length cap,.int .i64 j1,.int .i64 s.size,.int .i64 A,.int .i64 c1]=w3 at HF3⊢)
   |(
     refine wpList_store_row rfl 39 (.tmp 6) (.tmp 12) rfl (w2.heap.size+1) #[.slice b0 m0 d0,.slice b1 m1 d1,.slice b2 m2 d2,.slice b3 m3 d3,.slice b4 m4 d4] rfl rfl 39 _ (HF3.out.at 1 rfl rfl) JG rfl (Ygx _ _ _ _ _ _ _ _ _ _ _ _ _ _ _) ?_;have HF4:Hid (Fr w2 _ [(#[.slice ao (tokL s).length cap,.int .i64 j1,.int .i64 s.size,.int .i64 A,.int .i64 c1],85),(#[.slice b0 m0 d0,.slice b1 m1 d1,.slice b2 m2 d2,.slice b3 m3 d3,.slice b4 m4 d4],39)]):=Zh (HF3.out.setRowAt 1 rfl #[.slice b0 m0 d0,.slice b1 m1 d1,.slice b2 m2 d2,.slice b3 m3 d3,.slice b4 m4 d4] rfl);generalize World.setRow w3 (w2.heap.size+1) #[.slice b0 m0 d0,.slice b1 m1 d1,.slice b2 m2 d2,.slice b3 m3 d3,.slice b4 m4 d4]=w4 at HF4⊢;have HN4:=Zh ((HF4.out.below.block w.heap.size hlt2).trans HN2.out);have HB4:=Zh (HB2.out.trans (HF4.out.below.mono HB2.out.size));obtain⟨r0,r1,r2,r3,r4⟩:=row5 (HF4.out.at 0 (b:=w2.heap.size) rfl rfl);obtain⟨t0,t1,t2,t3,t4⟩:=row5 (HF4.out.at 1 (b:=w2.heap.size+1) rfl rfl);obtain⟨f0,f1,f2,f3,f4⟩:=frz5 (HF4.out.at 0 (b:=w2.heap.size) rfl rfl);obtain⟨z0,z1,z2,z3,z4⟩:=row5 HN4.out;obtain⟨x0,x1,x2,x3,x4⟩:=frz5 HN4.out))
  clear r0 r1 r2 r3 r4 t0 t1 t2 t3 t4 f0 f1 f2 f3 f4 z0 z1 z2 z3 z4 x0 x1 x2 x3 x4;obtain⟨r0,r1,r2,r3,r4⟩:=row5 (HF4.out.at 0 (b:=w2.heap.size) rfl rfl);obtain⟨t0,t1,t2,t3,t4⟩:=row5 (HF4.out.at 1 (b:=w2.heap.size+1) rfl rfl);obtain⟨f0,f1,f2,f3,f4⟩:=frz5 (HF4.out.at 0 (b:=w2.heap.size) rfl rfl);obtain⟨z0,z1,z2,z3,z4⟩:=row5 HN4.out;obtain⟨x0,x1,x2,x3,x4⟩:=frz5 HN4.out;go_wp2;go_region
  go_wp2;have q1:=Ye2 (Yx w4 w.heap.size _ _ _ _ _ (.slice none 0 0) (.slice none 0 0) (.slice none 0 0) (.slice none 0 0) (.slice none 0 0) HN4.out);have k:=Ycu (Yw w4 w.heap.size (.slice none 0 0) (.slice none 0 0) (.slice none 0 0) (.slice none 0 0) (.slice none 0 0));refine bodyPost_ret (JH rfl _ _ w.heap.size 39 _ _ (.int .i64 A) (.int .i64 c1) rfl rfl rfl q1 Tryz.underlying39 rfl JG) rfl ⟨HB4.out.trans (k.below HB4.out.size (fun i hi q=>by have q:i=w.heap.size:=q; omega)),?_⟩;rw[HRQ.out]
 |
  ok x k=>
  obtain⟨rfl,rfl,rfl,hk⟩:=hst1;have HSX:Hid (sx=x):=Zh (HST.out.2.2 x k rfl);by_cases hkl:k<(tokL s).length
  ·have l0:decide ((k:Int)<((tokL s).length:Int))=true:=Zt;have l1:decide (k<(tokL s).length)=true:=decide_eq_true hkl;have HRQ:Hid (Q= .bad (Y6 (tokL s) s.size k) 50):=Zh (by rw[HQ.out]; show endR (tokL s) s.size x k=_; unfold endR YQ; rw[if_pos hkl,if_pos (.inl hkl)]);have hFl:=fun W hb=>YaS ao cap (tokL s) s.size k 50 W (HT2.out.below hb) hk HL.out.len;rw[if_pos hkl] at hFl;generalize Y6 (tokL s) s.size k=H at HRQ hFl;unfold rV at hFl;have HFl:=Zh hFl;clear hFl;unfold rV;go_wp2_with (
    first
    |(
      refine wpList_store_row rfl 85 (.tmp 5) (.tmp 11) rfl w2.heap.size #[.slice ao (tokL s).length cap,.int .i64 k,.int .i64 s.size,.int .i64 0,.int .i64 0] rfl rfl 85 _ (HF2.out.at 0 rfl rfl) Yy rfl (YR _ _ _ _ _ _ _ _) ?_;have HF3:=Zh (HF2.out.setRowAt 0 rfl #[.slice ao (tokL s).length cap,.int .i64 k,.int .i64 s.size,.int .i64 0,.int .i64 0] rfl);generalize World.setRow ((w2.alloc (.cells #[.slice none 0 0,.int .i64 0,.int .i64 0,.int .i64 0,.int .i64 0] 85)).alloc (.cells #[.slice none 0 0,.slice none 0 0,.slice none 0 0,.slice none 0 0,.slice none 0 0] 39)) w2.heap.size #[.slice ao (tokL s).length cap,.int .i64 k,.int .i64 s.size,.int .i64 0,.int .i64 0]=w3 at HF3⊢)
    |(
      refine wpList_store_row rfl 39 (.tmp 6) (.tmp 12) rfl (w2.heap.size+1) #[.slice b0 m0 d0,.slice b1 m1 d1,.slice b2 m2 d2,.slice b3 m3 d3,.slice b4 m4 d4] rfl rfl 39 _ (HF3.out.at 1 rfl rfl) JG rfl (Ygx _ _ _ _ _ _ _ _ _ _ _ _ _ _ _) ?_;have HF4:Hid (Fr w2 _ [(#[.slice ao (tokL s).length cap,.int .i64 k,.int .i64 s.size,.int .i64 0,.int .i64 0],85),(#[.slice b0 m0 d0,.slice b1 m1 d1,.slice b2 m2 d2,.slice b3 m3 d3,.slice b4 m4 d4],39)]):=Zh (HF3.out.setRowAt 1 rfl #[.slice b0 m0 d0,.slice b1 m1 d1,.slice b2 m2 d2,.slice b3 m3 d3,.slice b4 m4 d4] rfl);generalize World.setRow w3 (w2.heap.size+1) #[.slice b0 m0 d0,.slice b1 m1 d1,.slice b2 m2 d2,.slice b3 m3 d3,.slice b4 m4 d4]=w4 at HF4⊢;have HN4:=Zh ((HF4.out.below.block w.heap.size hlt2).trans HN2.out);have HB4:=Zh (HB2.out.trans (HF4.out.below.mono HB2.out.size));obtain⟨r0,r1,r2,r3,r4⟩:=row5 (HF4.out.at 0 (b:=w2.heap.size) rfl rfl);obtain⟨t0,t1,t2,t3,t4⟩:=row5 (HF4.out.at 1 (b:=w2.heap.size+1) rfl rfl);obtain⟨f0,f1,f2,f3,f4⟩:=frz5 (HF4.out.at 0 (b:=w2.heap.size) rfl rfl);obtain⟨z0,z1,z2,z3,z4⟩:=row5 HN4.out;obtain⟨x0,x1,x2,x3,x4⟩:=frz5 HN4.out))
   refine(HFl.out w4 HF4.out.below).mono ?_;clear r0 r1 r2 r3 r4 t0 t1 t2 t3 t4 f0 f1 f2 f3 f4 z0 z1 z2 z3 z4 x0 x1 x2 x3 x4;clear HFl;rintro e w5 ⟨rfl,hb5⟩;have HF5:=Zh (HF4.out.next hb5);have hlt4:w.heap.size<w4.heap.size:=(Zg HN4.out).1;have HN5:=Zh ((hb5.block w.heap.size hlt4).trans HN4.out);have HB5:=Zh (HB4.out.trans (hb5.mono HB4.out.size));clear hb5;go_wp2_with (
    refine wpList_store_row rfl 85 (.tmp 5) (.tmp 25) rfl w2.heap.size #[.slice ao (tokL s).length cap,.int .i64 k,.int .i64 s.size,.int .i64 H,.int .i64 50] rfl rfl 85 _ (HF5.out.at 0 rfl rfl) Yy rfl (YR _ _ _ _ _ _ _ _) ?_;have HF6:Hid (Fr w2 _ [(#[.slice ao (tokL s).length cap,.int .i64 k,.int .i64 s.size,.int .i64 H,.int .i64 50],85),(#[.slice b0 m0 d0,.slice b1 m1 d1,.slice b2 m2 d2,.slice b3 m3 d3,.slice b4 m4 d4],39)]):=Zh (HF5.out.setRowAt 0 rfl #[.slice ao (tokL s).length cap,.int .i64 k,.int .i64 s.size,.int .i64 H,.int .i64 50] rfl);have K6:=Keep.of_setRow w5 w2.heap.size #[.slice ao (tokL s).length cap,.int .i64 k,.int .i64 s.size,.int .i64 H,.int .i64 50];have hlt5:w.heap.size<w5.heap.size:=(Zg HN5.out).1;have HN6:=Zh ((K6.block w.heap.size hlt5 (by show ¬w.heap.size=w2.heap.size; omega)).trans HN5.out);have HB6:=Zh (HB5.out.trans (K6.below HB5.out.size (fun i hi q=>by have q:i=w2.heap.size:=q; omega)));clear K6;generalize World.setRow w5 w2.heap.size #[.slice ao (tokL s).length cap,.int .i64 k,.int .i64 s.size,.int .i64 H,.int .i64 50]=w6 at HF6 HN6 HB6⊢;obtain⟨r0,r1,r2,r3,r4⟩:=row5 (HF6.out.at 0 (b:=w2.heap.size) rfl rfl);obtain⟨t0,t1,t2,t3,t4⟩:=row5 (HF6.out.at 1 (b:=w2.heap.size+1) rfl rfl);obtain⟨f0,f1,f2,f3,f4⟩:=frz5 (HF6.out.at 0 (b:=w2.heap.size) rfl rfl);obtain⟨z0,z1,z2,z3,z4⟩:=row5 HN6.out;obtain⟨x0,x1,x2,x3,x4⟩:=frz5 HN6.out)
   clear r0 r1 r2 r3 r4 t0 t1 t2 t3 t4 f0 f1 f2 f3 f4 z0 z1 z2 z3 z4 x0 x1 x2 x3 x4;obtain⟨r0,r1,r2,r3,r4⟩:=row5 (HF6.out.at 0 (b:=w2.heap.size) rfl rfl);obtain⟨t0,t1,t2,t3,t4⟩:=row5 (HF6.out.at 1 (b:=w2.heap.size+1) rfl rfl);obtain⟨f0,f1,f2,f3,f4⟩:=frz5 (HF6.out.at 0 (b:=w2.heap.size) rfl rfl);obtain⟨z0,z1,z2,z3,z4⟩:=row5 HN6.out;obtain⟨x0,x1,x2,x3,x4⟩:=frz5 HN6.out;go_wp2;go_region
   go_wp2;have q1:=Ye2 (Yx w6 w.heap.size _ _ _ _ _ (.slice none 0 0) (.slice none 0 0) (.slice none 0 0) (.slice none 0 0) (.slice none 0 0) HN6.out);have k:=Ycu (Yw w6 w.heap.size (.slice none 0 0) (.slice none 0 0) (.slice none 0 0) (.slice none 0 0) (.slice none 0 0));refine bodyPost_ret (JH rfl _ _ w.heap.size 39 _ _ (.int .i64 H) (.int .i64 50) rfl rfl rfl q1 Tryz.underlying39 rfl JG) rfl ⟨HB6.out.trans (k.below HB6.out.size (fun i hi q=>by have q:i=w.heap.size:=q; omega)),?_⟩;rw[HRQ.out]
  ·have l0:decide ((k:Int)<((tokL s).length:Int))=false:=Zf;have l1:decide (k<(tokL s).length)=false:=decide_eq_false hkl;have HRQ:Hid (Q= .ok x k):=Zh (by rw[HQ.out]; show endR (tokL s) s.size x k=_; unfold endR; rw[if_neg hkl]);unfold rV;go_wp2_with (
    first
    |(
      refine wpList_store_row rfl 85 (.tmp 5) (.tmp 11) rfl w2.heap.size #[.slice ao (tokL s).length cap,.int .i64 k,.int .i64 s.size,.int .i64 0,.int .i64 0] rfl rfl 85 _ (HF2.out.at 0 rfl rfl) Yy rfl (YR _ _ _ _ _ _ _ _) ?_;have HF3:=Zh (HF2.out.setRowAt 0 rfl #[.slice ao (tokL s).length cap,.int .i64 k,.int .i64 s.size,.int .i64 0,.int .i64 0] rfl);generalize World.setRow ((w2.alloc (.cells #[.slice none 0 0,.int .i64 0,.int .i64 0,.int .i64 0,.int .i64 0] 85)).alloc (.cells #[.slice none 0 0,.slice none 0 0,.slice none 0 0,.slice none 0 0,.slice none 0 0] 39)) w2.heap.size #[.slice ao (tokL s).length cap,.int .i64 k,.int .i64 s.size,.int .i64 0,.int .i64 0]=w3 at HF3⊢)
    |(
      refine wpList_store_row rfl 39 (.tmp 6) (.tmp 12) rfl (w2.heap.size+1) #[.slice b0 m0 d0,.slice b1 m1 d1,.slice b2 m2 d2,.slice b3 m3 d3,.slice b4 m4 d4] rfl rfl 39 _ (HF3.out.at 1 rfl rfl) JG rfl (Ygx _ _ _ _ _ _ _ _ _ _ _ _ _ _ _) ?_;have HF4:Hid (Fr w2 _ [(#[.slice ao (tokL s).length cap,.int .i64 k,.int .i64 s.size,.int .i64 0,.int .i64 0],85),(#[.slice b0 m0 d0,.slice b1 m1 d1,.slice b2 m2 d2,.slice b3 m3 d3,.slice b4 m4 d4],39)]):=Zh (HF3.out.setRowAt 1 rfl #[.slice b0 m0 d0,.slice b1 m1 d1,.slice b2 m2 d2,.slice b3 m3 d3,.slice b4 m4 d4] rfl);generalize World.setRow w3 (w2.heap.size+1) #[.slice b0 m0 d0,.slice b1 m1 d1,.slice b2 m2 d2,.slice b3 m3 d3,.slice b4 m4 d4]=w4 at HF4⊢;have HN4:=Zh ((HF4.out.below.block w.heap.size hlt2).trans HN2.out);have HB4:=Zh (HB2.out.trans (HF4.out.below.mono HB2.out.size));obtain⟨r0,r1,r2,r3,r4⟩:=row5 (HF4.out.at 0 (b:=w2.heap.size) rfl rfl);obtain⟨t0,t1,t2,t3,t4⟩:=row5 (HF4.out.at 1 (b:=w2.heap.size+1) rfl rfl);obtain⟨f0,f1,f2,f3,f4⟩:=frz5 (HF4.out.at 0 (b:=w2.heap.size) rfl rfl);obtain⟨z0,z1,z2,z3,z4⟩:=row5 HN4.out;obtain⟨x0,x1,x2,x3,x4⟩:=frz5 HN4.out))
   have q1:=Yx w4 w.heap.size _ _ _ _ _ (.slice b0 m0 d0) (.slice b1 m1 d1) (.slice b2 m2 d2) (.slice b3 m3 d3) (.slice b4 m4 d4) HN4.out;have k5:=Yw w4 w.heap.size (.slice b0 m0 d0) (.slice b1 m1 d1) (.slice b2 m2 d2) (.slice b3 m3 d3) (.slice b4 m4 d4);refine bodyPost_ret (JH rfl _ _ w.heap.size 39 _ _ (.int .i64 0) (.int .i64 0) rfl rfl rfl q1 Tryz.underlying39 rfl JG) rfl ⟨HB4.out.trans (k5.below HB4.out.size (fun i hi q=>by have q:i=w.heap.size:=q; omega)),?_⟩;rw[HRQ.out];refine⟨_,_,_,_,_,rfl,?_,?_⟩
   ·rw[<-HSX.out];exact Ss.flat_keep _ _ (Ss.flat_keep (T:=fun k=>w.heap.size<k) _ _ HFL.out (fun k q hk=>HF4.out.below.block k hk) (fun _ q _=>q)) (fun k q hk=>k5.block k hk (by have q:w.heap.size<k:=q; show ¬k=w.heap.size; omega)) (fun k q _=>by have q:w.heap.size<k:=q; omega)
   ·rw[<-HSX.out]; exact HST.out.2.1
structure Yci (B rb mb:Nat)(wr:World)(ve vf:Value)(m:Md):Prop where
 row:wr.heap[mb]? =some (.cells #[ve,vf] 30 (0,0))
 low:mb<B
 apart:mb≠rb
 rlow:rb<B
 ext:OwnR wr B 9 1 ve m.externs.length (stF m.externs)
 fns:OwnR wr B 63 3 vf m.funcs.length (fnX ve m.funcs)
section
variable {B rb mb:Nat}{wr W w7:World}{ve vf ve' vf':Value}{m:Md}
theorem Yci.lt (h:Yci B rb mb wr ve vf m):mb<wr.heap.size:=(Zg h.row).1
theorem Yci.call (h:Yci B rb mb wr ve vf m)(hK:Keep (fun k=>k=rb) wr W):Yci B rb mb W ve vf m:=by
 have hr:=h.rlow;exact⟨(hK.block _ h.lt h.apart).trans h.row,h.low,h.apart,hr,h.ext.keep (Jr _) hK (fun k q=>by omega),h.fns.keep (Jc _ _) hK (fun k q=>by omega)⟩
theorem Yci.new {S:Nat->Prop}(h:Yci B rb mb wr ve vf m)(hK:Keep S wr W)(hS:∀k,S k->wr.heap.size<=k):Yci B rb mb W ve vf m:=by
 have hK2:Keep (fun k=>k=rb) wr W:=Keep.trans (Keep.refl (fun k=>k=rb) wr) hK (fun k hk q=>by have:=hS k q; omega);exact h.call hK2
theorem Yci.pushE {s:ByteArray}(h:Yci B rb mb wr ve vf m)(hK:Keep (fun k=>ve.ownBlock=some k) wr w7)(hO:OwnR w7 B 9 1 ve' (m.externs.length+1) (stF (m.externs++[s])))(hat:ve'.ownBlock=ve.ownBlock\/ve'.ownBlock=some wr.heap.size):
 Yci B rb mb (w7.setCell ⟨mb,0,none⟩ ve') ve' vf ⟨m.externs++[s],m.funcs⟩:=by
 have hlow:=h.low;have hb:∀k,ve.ownBlock=some k->B<=k:=fun k q=>(h.ext.own_lt k q).1;have r7:=(hK.block mb h.lt (fun q=>by have:=hb _ q; omega)).trans h.row;have K2:=Keep.of_setCell w7 ⟨mb,0,none⟩ ve';refine⟨by have:=heap_setCell_same w7 mb 0 _ _ ve' r7; simpa using this,hlow,h.apart,h.rlow,?_,?_⟩
 ·show OwnR _ B _ 1 ve' (m.externs++[s]).length (stF (m.externs++[s]));rw[List.length_append,List.length_singleton];exact hO.keep (Jr _) K2 (fun k q=>by have:k=mb:=q; omega)
 ·show OwnR _ B _ 3 vf m.funcs.length (fnX ve' m.funcs);obtain⟨xs,ho,hf⟩:=h.fns;have hne:∀k,vf.ownBlock=some k->ve.ownBlock≠some k:=fun k q=>own_ne h.fns h.ext Zd q;have ho7:w7.ownsRow B 63 3 vf m.funcs.length xs:=hK.owns ho (fun k e q=>hne k e q);have hf7:J8 w7 (fun k=>(B<=k/\vf.ownBlock≠some k)/\ve'.ownBlock≠some k) m.funcs xs:=J7 _ xs hf (fun k q hk=>hK.block k hk q.2) (fun k q hk=>⟨q.1,fun e1=>by
   rcases hat with e2 | e2
   ·exact q.2 (e2.symm.trans e1)
   ·rw[e2] at e1; cases e1; omega⟩)
  have h7:OwnR w7 B 63 3 vf m.funcs.length (fnX ve' m.funcs):=⟨xs,ho7,hf7⟩;exact h7.keep (Jc _ _) K2 (fun k q=>by have:k=mb:=q; omega)
theorem Yci.pushF {f:Fn}(h:Yci B rb mb wr ve vf m)(hK:Keep (fun k=>vf.ownBlock=some k) wr w7)(hO:OwnR w7 B 63 3 vf' (m.funcs.length+1) (fnX ve (m.funcs++[f]))):
 Yci B rb mb (w7.setCell ⟨mb,1,none⟩ vf') ve vf' ⟨m.externs,m.funcs++[f]⟩:=by
 have hlow:=h.low;have hb:∀k,vf.ownBlock=some k->B<=k:=fun k q=>(h.fns.own_lt k q).1;have r7:=(hK.block mb h.lt (fun q=>by have:=hb _ q; omega)).trans h.row;have K2:=Keep.of_setCell w7 ⟨mb,1,none⟩ vf';refine⟨by have:=heap_setCell_same w7 mb 1 _ _ vf' r7; simpa using this,hlow,h.apart,h.rlow,?_,?_⟩
 ·obtain⟨xs,ho,hf⟩:=h.ext;have hne:∀k,ve.ownBlock=some k->vf.ownBlock≠some k:=fun k q=>own_ne h.ext h.fns Zd q;have h7:OwnR w7 B 9 1 ve m.externs.length (stF m.externs):=⟨xs,hK.owns ho (fun k e q=>hne k e q),hf⟩;exact h7.keep (Jr _) K2 (fun k q=>by have:k=mb:=q; omega)
 ·show OwnR _ B _ 3 vf' (m.funcs++[f]).length (fnX ve (m.funcs++[f]));rw[List.length_append,List.length_singleton];exact hO.keep (Jc _ _) K2 (fun k q=>by have:k=mb:=q; omega)
end
structure RmS (ao:Option Addr)(cap:Nat)(L:List Tk)(en:Nat)(w2 wr:World)(ve vf:Value)(m:Md)(i a c:Int):Prop where
 fr:Fr w2 wr [(#[.slice ao L.length cap,.int .i64 i,.int .i64 en,.int .i64 a,.int .i64 c],85),(#[ve,vf],30)]
 mw:Yci (w2.heap.size+2) w2.heap.size (w2.heap.size+1) wr ve vf m
section
variable {ao:Option Addr}{cap:Nat}{L:List Tk}{en:Nat}{w2 wr w1 w7:World}{ve vf ve' vf':Value}{m:Md}{i a c:Int}
theorem RmS.next (h:RmS ao cap L en w2 wr ve vf m i a c)(hb:Below wr.heap.size wr w1):RmS ao cap L en w2 w1 ve vf m i a c:=⟨h.fr.next hb,h.mw.new (Keep.of_below (S:=fun _=>False) hb) (fun _ q=>q.elim)⟩
theorem RmS.setR (h:RmS ao cap L en w2 wr ve vf m i a c)(i' a' c':Int):RmS ao cap L en w2 (wr.setRow w2.heap.size #[.slice ao L.length cap,.int .i64 i',.int .i64 en,.int .i64 a',.int .i64 c']) ve vf m i' a' c':=⟨h.fr.setRowAt 0 rfl _ rfl,h.mw.call (Keep.of_setRow wr w2.heap.size _)⟩
theorem RmS.setI (h:RmS ao cap L en w2 wr ve vf m i a c)(i':Int):RmS ao cap L en w2 (wr.setCell ⟨w2.heap.size,1,none⟩ (.int .i64 i')) ve vf m i' a c:=⟨h.fr.setCellAt 0 rfl 1 _ rfl,h.mw.call (Keep.of_setCell wr ⟨w2.heap.size,1,none⟩ _)⟩
theorem RmS.far {S:Nat->Prop}{i' a' c':Int}{w0:World}(h0:RmS ao cap L en w2 w0 ve vf m i a c)(hK:Keep S w0 w1)(hS:∀k,S k->k=w2.heap.size\/w0.heap.size<=k)(hf:Fr w2 w1 [(#[.slice ao L.length cap,.int .i64 i',.int .i64 en,.int .i64 a',.int .i64 c'],85),(#[ve,vf],30)]):RmS ao cap L en w2 w1 ve vf m i' a' c':=
 ⟨hf,h0.mw.call (Keep.trans (Keep.refl (fun k=>k=w2.heap.size) w0) hK (fun k hk q=>(hS k q).elim id (fun e=>by omega)))⟩
theorem RmS.pushE {s:ByteArray}(h:RmS ao cap L en w2 wr ve vf m i a c)(hK:Keep (fun k=>ve.ownBlock=some k) wr w7)(hO:OwnR w7 (w2.heap.size+2) 9 1 ve' (m.externs.length+1) (stF (m.externs++[s])))(hat:ve'.ownBlock=ve.ownBlock\/ve'.ownBlock=some wr.heap.size):
 RmS ao cap L en w2 (w7.setCell ⟨w2.heap.size+1,0,none⟩ ve') ve' vf ⟨m.externs++[s],m.funcs⟩ i a c:=
 ⟨(h.fr.keep hK (fun k q=>(h.mw.ext.own_lt k q).1)).setCellAt 1 rfl 0 ve' rfl,h.mw.pushE hK hO hat⟩
theorem RmS.pushF {f:Fn}(h:RmS ao cap L en w2 wr ve vf m i a c)(hK:Keep (fun k=>vf.ownBlock=some k) wr w7)(hO:OwnR w7 (w2.heap.size+2) 63 3 vf' (m.funcs.length+1) (fnX ve (m.funcs++[f]))):
 RmS ao cap L en w2 (w7.setCell ⟨w2.heap.size+1,1,none⟩ vf') ve vf' ⟨m.externs,m.funcs++[f]⟩ i a c:=
 ⟨(h.fr.keep hK (fun k q=>(h.mw.fns.own_lt k q).1)).setCellAt 1 rfl 1 vf' rfl,h.mw.pushF hK hO⟩
theorem RmS.rtm (h:RmS ao cap L en w2 wr ve vf m i a c):rtM w2.heap.size L.length wr=if c=0 then L.length+1 - i.toNat else 0:=by
 obtain⟨_,r1,_,_,r4⟩:=row5 (h.fr.at 0 (b:=w2.heap.size) rfl rfl);unfold rtM;rw[r1,r4]
end
def YoH (ao:Option Addr)(cap:Nat)(L:List Tk)(en p:Nat)(RX:Rd (List ByteArray))(fs:List Fn)(w2:World)(v:Value)(wr:World):Prop:=
 ∃(
  ve vf:Value) (ext:List ByteArray) (i a c:Int),RmS ao cap L en w2 wr ve vf ⟨ext,fs⟩ i a c/\ext.length<=60000/\
  (
   (v= .bool true/\∃q n:Nat,i=q/\a=0/\c=0/\p<=q/\q<L.length/\L.length - q+1<=n/\ext.length<=q/\extN L en n (q+1) ext=RX)\/
   (v= .bool false/\∃Y:Rd Unit,StOk L Y i a c/\RX=(Y.bind fun _ j=>.ok ext j)/\∀u j,Y= .ok u j->p<j/\ext.length<=j))
def exM (b n:Nat)(v:Value)(w:World):Nat:=match v with | .bool true=>rtM b n w+1 | _=>0
theorem YnV {L:List Tk}{en n q:Nat}{ext:List ByteArray}{RX:Rd (List ByteArray)}(hR:extN L en (n+1) (q+1) ext=RX){s:ByteArray}(hs:∀x j,Yz L en (q+1)= .ok x j->s=x){d:Bool}(hd:isX L (Yz L en (q+1)) 6 JQ=d){i a c:Int}(hst:StOk L (Yz L en (q+1)) i a c):
 (d=true/\i=((q+2:Nat):Int)/\a=0/\c=0/\q+2<L.length/\extN L en n (q+3) (ext++[s])=RX)\/(d=false/\∃Y:Rd Unit,StOk L Y i a c/\RX=(Y.bind fun _ j=>.ok (ext++[s]) j)/\∀u j,Y= .ok u j->j=q+2):=by
 rw[ext_eq] at hR;cases hX:Yz L en (q+1) with
 |
  bad A C=>
  rw[hX] at hR hst hd;exact .inr ⟨hd.symm,.bad A C,hst,hR.symm,fun u j e=>by cases e⟩
 |
  ok x j=>
  have hj:=JD hX;obtain rfl:=hs x j hX;rw[hX] at hR hst hd;obtain⟨h1,h2,h3,h4⟩:=hst;have hd:isN L j 6 JQ=d:=hd;subst hj;cases d with
  |
   true=>
   refine .inl ⟨rfl,h1,h2,h3,YeS hd,?_⟩;rw[<-hR];show _=extT L en n (q+1+1) (ext++[s]);unfold extT;rw[if_pos hd]
  |
   false=>
   refine .inr ⟨rfl,.ok () (q+2),⟨h1,h2,h3,h4⟩,?_,fun u j e=>by cases e; rfl⟩;rw[<-hR];show extT L en n (q+1+1) (ext++[s])=_;unfold extT;rw[hd,if_neg Zd];rfl
def YlY (ao:Option Addr)(cap:Nat)(L:List Tk)(en:Nat)(Q:Rd Md)(w2 wr:World):Prop:=
 ∃(ve vf:Value) (m:Md) (i a c:Int) (n:Nat) (Y:Rd Unit),RmS ao cap L en w2 wr ve vf m i a c/\StOk L Y i a c/\(Y.bind fun _ i=>Jm L en n i m)=Q/\(∀u j,Y= .ok u j->L.length - j<n/\m.externs.length<=j/\m.funcs.length<=j)
theorem YfK {L:List Tk}{en n p:Nat}{m:Md}{Q:Rd Md}(hQ:Jm L en (n+1) p m=Q)(hp:p<L.length):(YaA L en p m).bind (fun m' j=>Jm L en n j m')=Q:=by
 unfold Jm at hQ;rw[if_pos hp] at hQ;exact hQ
theorem Ylj {L:List Tk}{en n p:Nat}{m:Md}{Q:Rd Md}(hQ:Jm L en (n+1) p m=Q)(hp:¬p<L.length):Q= .ok m p:=by
 unfold Jm at hQ;rw[if_neg hp] at hQ;exact hQ.symm
theorem YkJ {L:List Tk}{en p:Nat}{m:Md}(h:isN L p 7 YaG=true):YaA L en p m=(extN L en (L.length+1) (p+1) m.externs).bind fun l j=>(Yh L en j JA).bind fun _ k=>.ok ⟨l,m.funcs⟩ k:=by
 unfold YaA; rw[if_pos h]
theorem YkI {L:List Tk}{en p:Nat}{m:Md}(h:isN L p 7 YaG=false):YaA L en p m=(Yz L en (if isN L p 7 Ya0=true then p+1 else p)).bind fun nm j=>(Yh L en j Y1).bind fun _ k=>
 ((YM L en (L.length+4) 0 k).bind fun b q=>(Yh L en q sEnd).bind fun _ t=>.ok b t).bind fun b q=>.ok ⟨m.externs,m.funcs++[⟨nm,isN L p 7 Ya0,b⟩]⟩ q:=by
 unfold YaA;rw[h,if_neg Zd];simp only[Yez]
structure Fk (w2 w3 W:World)(rc mv:Array Value):Prop where
 fr:Fr w2 W [(rc,85),(mv,30)]
 keep:Keep (fun k=>k=w2.heap.size) w3 W
section
variable {w2 w3 W W':World}{rc mv:Array Value}
theorem Fk.next (h:Fk w2 w3 W rc mv)(hb:Below W.heap.size W W'):Fk w2 w3 W' rc mv:=⟨h.fr.next hb,h.keep.trans (Keep.of_below (S:=fun _=>False) hb) (fun _ _ q=>q.elim)⟩
theorem Fk.setR (h:Fk w2 w3 W rc mv)(new:Array Value):Fk w2 w3 (W.setRow w2.heap.size new) new mv:=⟨h.fr.setRowAt 0 rfl new rfl,h.keep.trans (Keep.of_setRow W w2.heap.size new) (fun _ _ q=>q)⟩
theorem Fk.setI (h:Fk w2 w3 W rc mv)(v:Value):Fk w2 w3 (W.setCell ⟨w2.heap.size,1,none⟩ v) (rc.setIfInBounds 1 v) mv:=⟨h.fr.setCellAt 0 rfl 1 v rfl,h.keep.trans (Keep.of_setCell W ⟨w2.heap.size,1,none⟩ v) (fun _ _ q=>q)⟩
theorem Fk.setN (h:Fk w2 w3 W rc mv)(hz:w2.heap.size+2<=w3.heap.size)(o:Nat)(v:Value):Fk w2 w3 (W.setCell ⟨w3.heap.size,o,none⟩ v) rc mv:=
 ⟨h.fr.keep (Keep.of_setCell W ⟨w3.heap.size,o,none⟩ v) (fun k q=>by have q:k=w3.heap.size:=q; show w2.heap.size+2<=k; omega),h.keep.trans (Keep.of_setCell W ⟨w3.heap.size,o,none⟩ v) (fun k hk q=>by have q:k=w3.heap.size:=q; omega)⟩
theorem RmS.of_fk {ao:Option Addr}{cap:Nat}{L:List Tk}{en:Nat}{ve vf:Value}{m:Md}{i a c i' a' c':Int}(h0:RmS ao cap L en w2 w3 ve vf m i a c)(h:Fk w2 w3 W #[.slice ao L.length cap,.int .i64 i',.int .i64 en,.int .i64 a',.int .i64 c'] #[ve,vf]):RmS ao cap L en w2 W ve vf m i' a' c':=h0.far h.keep (fun _ q=>.inl q) h.fr
end
theorem YiV {L:List Tk}{en n pp p:Nat}{ext:List ByteArray}{fs:List Fn}{e:Bool}{Q:Rd Md}(hp:p<=pp)
 (hQ:((Yz L en pp).bind fun nm j=>(Yh L en j Y1).bind fun _ k=>((YM L en (L.length+4) 0 k).bind fun b q=>(Yh L en q sEnd).bind fun _ t=>.ok b t).bind fun b q=>.ok ⟨ext,fs++[⟨nm,e,b⟩]⟩ q).bind (fun m' j=>Jm L en n j m')=Q)
 {s:ByteArray}(hs:∀x j,Yz L en pp= .ok x j->s=x){b:Ss}(hb:∀x j,(((Yz L en pp).bind fun _ j=>Yh L en j Y1).bind fun _ k=>YM L en (L.length+4) 0 k)= .ok x j->b=x):
 ((((Yz L en pp).bind fun _ j=>Yh L en j Y1).bind fun _ k=>YM L en (L.length+4) 0 k).bind fun _ q=>Yh L en q sEnd).bind (fun _ k=>Jm L en n k ⟨ext,fs++[⟨s,e,b⟩]⟩)=Q/\
 ∀u j,((((Yz L en pp).bind fun _ j=>Yh L en j Y1).bind fun _ k=>YM L en (L.length+4) 0 k).bind fun _ q=>Yh L en q sEnd)= .ok u j->p<j:=by
 cases h1:Yz L en pp with
 |bad A C=>rw[h1] at hQ; exact⟨hQ,fun u j q=>by cases q⟩
 |
  ok x j1=>
  obtain rfl:=hs x j1 h1;have e1:=JD h1;rw[h1] at hQ hb;dsimp only[Rd.bind] at hQ hb⊢;cases h2:Yh L en j1 Y1 with
  |bad A C=>rw[h2] at hQ; exact⟨hQ,fun u j q=>by cases q⟩
  |
   ok u k=>
   have e2:=(YG h2).2;rw[h2] at hQ hb;dsimp only[Rd.bind] at hQ hb⊢;cases h3:YM L en (L.length+4) 0 k with
   |bad A C=>rw[h3] at hQ; exact⟨hQ,fun u j q=>by cases q⟩
   |
    ok y q1=>
    rw[h3] at hQ hb;obtain rfl:=hb y q1 rfl;dsimp only[Rd.bind] at hQ⊢;cases h4:Yh L en q1 sEnd with
    |bad A C=>rw[h4] at hQ; exact⟨hQ,fun u j q=>by cases q⟩
    |
     ok u2 t=>
     rw[h4] at hQ;refine⟨hQ,fun u3 j q=>?_⟩;cases q;have h5:YZ L en (L.length+4) 0 k= .ok b t:=by rw[Yez,h3]; dsimp only[Rd.bind]; rw[h4]
     have:=Ygf _ _ _ _ _ h5;omega
def Ynl (w:World)(Q:Rd Md)(e:Ending)(w':World):Prop:=Below w.heap.size w w'/\match Q with
 |.ok m _=>∃ve vf,e= .returned (.tuple #[.agg #[ve,vf],.int .i64 0,.int .i64 0])/\MdV w' (fun k=>w.heap.size<=k) ve vf m
 |.bad a c=>e= .returned (.tuple #[.agg #[.slice none 0 0,.slice none 0 0],.int .i64 a,.int .i64 c])
theorem YkL (s:ByteArray):readB s=(begR s).bind fun _ i=>Jm (tokL s) s.size ((tokL s).length+1) i ⟨[],[]⟩:=by
 rw[Ygm,YfD];have h0:=fun u i=>Yil (s:=s) (u:=u) (i:=i);generalize begR s=B at h0⊢;cases B with
 |bad=>rfl
 |
  ok u i=>
  obtain rfl:=h0 u i rfl;rfl
theorem YiN {x y:Value}:(Tryz.prog.info? 30).map (·.size)=some (#[x,y]:Array Value).size:=by
 show _=some 2;kernel_rfl
theorem YlJ {W:World}{g:Nat}{a b c:Value}{t:TypeId}(h:W.heap[g]? =some (.cells #[a,b,c] t (0,0)))(v:Value):(W.setCell ⟨g,0,none⟩ v).heap[g]? =some (.cells #[v,b,c] t (0,0)):=by
 have:=heap_setCell_same W g 0 _ _ v h; simpa using this
theorem Yn5 {W:World}{g:Nat}{a b c:Value}{t:TypeId}(h:W.heap[g]? =some (.cells #[a,b,c] t (0,0)))(v:Value):(W.setCell ⟨g,1,none⟩ v).heap[g]? =some (.cells #[a,v,c] t (0,0)):=by
 have:=heap_setCell_same W g 1 _ _ v h; simpa using this
theorem YlI {W:World}{g:Nat}{a b c:Value}{t:TypeId}(h:W.heap[g]? =some (.cells #[a,b,c] t (0,0)))(v:Value):(W.setCell ⟨g,2,none⟩ v).heap[g]? =some (.cells #[a,b,v] t (0,0)):=by
 have:=heap_setCell_same W g 2 _ _ v h; simpa using this
theorem Yci.mdV {B rb mb:Nat}{w:World}{ve vf:Value}{m:Md}(h:Yci B rb mb w ve vf m):MdV w (fun k=>B<=k) ve vf m:=by
 refine⟨h.ext.stV,?_⟩;obtain⟨xs,ho,hf⟩:=h.fns;exact Yab.of_owns ho hf (fun k q=>q.1.1) (fun k _ q=>q)
theorem Yhi (s:ByteArray)(w:World)(hs:s.size<=40000):
 Calls Tryz.prog 12 #[.string s] w (Ynl w (readB s)):=by
 have HL:=Zh (Yfs s hs);have hB:=YfE s (w.alloc (.cells #[.slice none 0 0,.slice none 0 0] 30)) hs;have HN0:=Zh (heap_alloc_new w (.cells #[.slice none 0 0,.slice none 0 0] 30));have HB0:=Zh (below_alloc1 w (.cells #[.slice none 0 0,.slice none 0 0] 30));have HQ:=Zh (YkL s);generalize readB s=Q at HQ⊢;generalize tokL s=L at HL HQ hB;generalize hen:s.size=en at HQ hB;generalize begR s=B at HQ hB;clear hen hs;go_enter Tryz.func12,Tryz.ntmps12;go_wp2_with fail;refine hB.mono ?_;clear hB;rintro e w2 ⟨hb1,ao,cap,r,rfl,hX0,hT1⟩;obtain⟨i,a,c,rfl,hst⟩:=hX0;have HN2:=Zh ((hb1.block w.heap.size Zs).trans HN0.out);have HB2:=Zh (HB0.out.trans (hb1.mono Zs));have HT2:=Zh hT1;have hlt2:w.heap.size<w2.heap.size:=(Zg HN2.out).1;have HREL:Hid (YlY ao cap L en Q w2 ((w2.alloc (.cells #[.slice ao L.length cap,.int .i64 i,.int .i64 en,.int .i64 a,.int .i64 c] 85)).alloc (.cells #[.slice none 0 0,.slice none 0 0] 30))):=Zh (by
  have hF:Fr w2 ((w2.alloc (.cells #[.slice ao L.length cap,.int .i64 i,.int .i64 en,.int .i64 a,.int .i64 c] 85)).alloc (.cells #[.slice none 0 0,.slice none 0 0] 30)) [(#[.slice ao L.length cap,.int .i64 i,.int .i64 en,.int .i64 a,.int .i64 c],85),(#[.slice none 0 0,.slice none 0 0],30)]:=((Fr.start w2).alloc Zs _ _).alloc Zs _ _;refine⟨.slice none 0 0,.slice none 0 0,⟨[],[]⟩,i,a,c,L.length+1,B,⟨hF,hF.at 1 rfl rfl,by omega,by omega,by omega,OwnR.nil (fun _=>rfl),OwnR.nil (fun _=>rfl)⟩,hst,HQ.out.symm,fun u j q=>⟨by omega,Nat.zero_le _,Nat.zero_le _⟩⟩)
 clear hb1 hT1 hst HQ;unfold rV;go_wp2_with fail;go_loopw [] (fun wr=>YlY ao cap L en Q w2 wr) (fun wr=>rtM w2.heap.size L.length wr)
 case atStart=>exact HREL.out
 case round=>
  clear HREL;obtain⟨ve,vf,m,i,a,c,n,Y,hS,hst,hYQ,hYj⟩:=hrel;cases Y with
  |
   bad A C=>
   obtain⟨rfl,rfl,hC⟩:=hst;have hq1:(c==0)=false:=by simpa using hC
   have hq2:(c != 0)=true:=by simpa using hC
   have HRQ:Hid (Q= .bad A c):=Zh hYQ.symm;have HS:=Zh hS;have HNr:=Zh ((hS.fr.below.block w.heap.size hlt2).trans HN2.out);have HBr:=Zh (HB2.out.trans (hS.fr.below.mono HB2.out.size));obtain⟨z0,z1⟩:=row2 HNr.out;obtain⟨x0,x1⟩:=frz2 HNr.out;clear hC hS hYj;obtain⟨r0,r1,r2,r3,r4⟩:=row5 (HS.out.fr.at 0 (b:=w2.heap.size) rfl rfl);go_wp2;go_region
   go_wp2;obtain⟨q1,q2⟩:=Yd7 (.slice none 0 0) (.slice none 0 0) HNr.out;refine bodyPost_ret (JH rfl _ _ w.heap.size 30 _ _ (.int .i64 A) (.int .i64 c) rfl rfl rfl (Ye2 q1) Tryz.underlying30 rfl YiN) rfl ⟨HBr.out.trans ((Ycu q2).below HBr.out.size (fun i hi q=>by have q:i=w.heap.size:=q; omega)),?_⟩;rw[HRQ.out]
  |
   ok u p=>
   obtain⟨rfl,rfl,rfl,hp⟩:=hst;obtain⟨hn,hme,hmf⟩:=hYj u p rfl;obtain⟨n,rfl⟩:∃q,n=q+1:=⟨n - 1,by omega⟩;by_cases hpl:p<L.length
   ·have l0:decide ((
                     p:Int)<(L.length:Int))=true:=Zt
    have l1:decide (p<L.length)=true:=decide_eq_true hpl;have HM0:=Zh hS.rtm;have HS:=Zh hS;obtain⟨ce,hce⟩:∃b,isN L p 7 YaG=b:=⟨_,rfl⟩;have hI:Calls Tryz.prog 45 #[rV ao cap L en p 0 0,.string YaG] wr fun e w'=>e= .returned (.bool (isN L p 7 YaG))/\Below wr.heap.size wr w':=YkK (ao:=ao) (cap:=cap) (en:=en) HL.out (YaZ (α:=Unit) () hp) (HT2.out.below hS.fr.below) YaG Zd;rw[hce] at hI;unfold rV at hI;clear hS hYj;obtain⟨r0,r1,r2,r3,r4⟩:=row5 (HS.out.fr.at 0 (b:=w2.heap.size) rfl rfl);go_wp2_with fail;refine hI.mono ?_;clear hI r0 r1 r2 r3 r4;rintro e w3 ⟨rfl,hb3⟩;have HS3:=Zh (HS.out.next hb3);clear hb3;cases ce with
    |
     true=>
     have hIT:=YfK hYQ hpl;rw[YkJ hce] at hIT;obtain⟨RX,hRX⟩:∃RX,extN L en (L.length+1) (p+1) m.externs=RX:=⟨_,rfl⟩;rw[hRX] at hIT;have HIT:=Zh hIT;have HIN:Hid (YoH ao cap L en p RX m.funcs w2 (.bool true) w3):=Zh ⟨_,_,m.externs,_,_,_,HS3.out,by have:=HL.out.len; omega,.inl ⟨rfl,p,L.length+1,rfl,rfl,rfl,Nat.le_refl _,hpl,by omega,hme,hRX⟩⟩;clear hIT hRX hYQ hce;go_wp2_with fail;go_loopw [7] (fun v wr=>YoH ao cap L en p RX m.funcs w2 v wr) (fun v wr=>exM w2.heap.size L.length v wr)
     case atStart=>exact HIN.out
     case round=>
      obtain⟨ve,vf,ext,i,a,c,hS,hel,hcase⟩:=hrel;rcases hcase with⟨rfl,q,n',rfl,rfl,rfl,hpq,hql,hn',heq,hext⟩ | ⟨rfl,Y,hst,hRXY,hYp⟩
      ·obtain⟨n',rfl⟩:∃t,n'=t+1:=⟨n' - 1,by omega⟩;have h40:=HL.out.len;have HMi:=Zh hS.rtm;have HEX:=Zh hext;have HS:=Zh hS;have wq:IntKind.i64.wrap ((q:Int)+1)=q+1:=IntWalk.i64_in _ Zo;clear hS hext;obtain⟨r0,r1,r2,r3,r4⟩:=row5 (HS.out.fr.at 0 (b:=w2.heap.size) rfl rfl);obtain⟨f0,f1,f2,f3,f4⟩:=frz5 (HS.out.fr.at 0 (b:=w2.heap.size) rfl rfl);go_wp2_with fail;have hS4:=HS.out.setI ((q:Int)+1);generalize wr.setCell ⟨w2.heap.size,1,none⟩ (.int .i64 ((q:Int)+1))=w4 at hS4⊢;have HS4:=Zh hS4;have hNm:=Yd5 HL.out (YdC (ao:=ao) (cap:=cap) (en:=en) (α:=Unit) () hql) (HT2.out.below hS4.fr.below);clear hS4 r0 r1 r2 r3 r4 f0 f1 f2 f3 f4;unfold rV at hNm;refine hNm.mono ?_;clear hNm;rintro e w5 ⟨⟨r',s',rfl,hX1,hs'⟩,hb5⟩;obtain⟨j1,a1,c1,rfl,hst1⟩:=hX1;have HS5:=Zh (HS4.out.next hb5);have hst1:StOk L (Yz L en (q+1)) j1 a1 c1:=hst1;have hs':∀x j,Yz L en (q+1)= .ok x j->s'=x:=hs';obtain⟨d,hd⟩:∃d,isX L (Yz L en (q+1)) 6 JQ=d:=⟨_,rfl⟩;have HSTEP:=Zh (YnV HEX.out hs' hd hst1);have HST1:=Zh hst1;have HD:=Zh hd;clear hb5 hst1 hs' hd;unfold rV;go_wp2_with (
        first
        |(
          refine wpList_store_row rfl 85 (.tmp 5) (.tmp 39) rfl w2.heap.size #[.slice ao L.length cap,.int .i64 j1,.int .i64 en,.int .i64 a1,.int .i64 c1] rfl rfl 85 _ (HS5.out.fr.at 0 rfl rfl) Yy rfl (YR _ _ _ _ _ _ _ _) ?_;have HS6:=Zh (HS5.out.setR j1 a1 c1);generalize World.setRow w5 w2.heap.size #[.slice ao L.length cap,.int .i64 j1,.int .i64 en,.int .i64 a1,.int .i64 c1]=w6 at HS6⊢;obtain⟨r0,r1,r2,r3,r4⟩:=row5 (HS6.out.fr.at 0 (b:=w2.heap.size) rfl rfl);obtain⟨y0,y1⟩:=row2 (HS6.out.fr.at 1 (b:=w2.heap.size+1) rfl rfl);obtain⟨h0,h1⟩:=frz2 (HS6.out.fr.at 1 (b:=w2.heap.size+1) rfl rfl);have HS7:=Zh (HS6.out.next (below_alloc1 w6 (.cells #[.string s'] 9)));have HNW:=Zh (YnD w6 (.string s') 9))
        |(
          at_builtin;refine Yn rfl _ _ 23 rfl (w2.heap.size+2) 9 1 16 Ykj _ _ rfl HS7.out.mw.ext (Jr _) (Jr [s']) (YhS _ _) (some ⟨w6.heap.size,0,none⟩) 1 1 [.string s'] rfl Zr rfl (fun _=>⟨_,0,rfl,HNW.out⟩) (by simp[Value.oneCell']) (by show ext.length+1<=100000000000; omega) Zo HS7.out.fr.size ?_;intro v7 w7 hO3 hK3 hat3;obtain⟨ao7,cap7,rfl⟩:=hO3.form;have hf7:=HS7.out.fr.keep hK3 (fun k q=>(HS7.out.mw.ext.own_lt k q).1);obtain⟨y0,y1⟩:=row2 (hf7.at 1 (b:=w2.heap.size+1) rfl rfl);obtain⟨h0,h1⟩:=frz2 (hf7.at 1 (b:=w2.heap.size+1) rfl rfl);obtain⟨r0,r1,r2,r3,r4⟩:=row5 (hf7.at 0 (b:=w2.heap.size) rfl rfl);have HS8:=Zh (HS7.out.pushE (s:=s') hK3 hO3 hat3);clear hO3 hK3 hat3 hf7))
       generalize World.setCell w7 ⟨w2.heap.size+1,0,none⟩ _=w8 at HS8⊢;have hI:=YaL (ao:=ao) (cap:=cap) (en:=en) HL.out ⟨_,_,_,rfl,HST1.out⟩ (HT2.out.below HS8.out.fr.below) JQ rfl;rw[HD.out] at hI;unfold rV at hI;refine hI.mono ?_;clear hI r0 r1 r2 r3 r4 y0 y1 h0 h1;rintro e w9 ⟨rfl,hb9⟩;have HS9:=Zh (HS8.out.next hb9);clear hb9;go_wp2;go_roundw
       case rel=>
        refine⟨_,_,_,_,_,_,HS9.out,by rw[List.length_append,List.length_singleton]; omega,?_⟩;rcases HSTEP.out with⟨rfl,rfl,rfl,rfl,h5,h6⟩ | ⟨rfl,Y,h5,h6,h7⟩
        ·exact .inl ⟨rfl,q+2,n',rfl,rfl,rfl,by omega,h5,by omega,by rw[List.length_append,List.length_singleton]; omega,h6⟩
        ·exact .inr ⟨rfl,Y,h5,h6,fun u j e=>by have:=h7 u j e; rw[List.length_append,List.length_singleton]; omega⟩
       case measure=>
        have e1:=HS9.out.rtm;have e2:=HMi.out;rcases HSTEP.out with⟨rfl,rfl,rfl,rfl,h5,h6⟩ | ⟨rfl,Y,h5,h6,h7⟩
        ·show rtM w2.heap.size L.length w9+1<rtM w2.heap.size L.length wr+1;rw[e1,e2,if_pos rfl];first | rw[if_pos rfl] | rw[if_pos trivial]
         omega
        ·exact Nat.succ_pos _
      ·have HQ2:Hid (
        ((Y.bind fun _ j=>Yh L en j JA).bind fun _ k=>Jm L en n k ⟨ext,m.funcs⟩)=Q):=Zh (by
        rw[<-HIT.out,hRXY];cases Y with
        |bad=>rfl
        |
         ok u j=>
         dsimp only[Rd.bind];cases Yh L en j JA<;>rfl)
       have HYP:=Zh hYp;have HS:=Zh hS;have hM:=Yat (ao:=ao) (cap:=cap) (en:=en) HL.out ⟨_,_,_,rfl,hst⟩ (HT2.out.below hS.fr.below) JA rfl;unfold rV at hM;clear hS hst hRXY hYp;obtain⟨r0,r1,r2,r3,r4⟩:=row5 (HS.out.fr.at 0 (b:=w2.heap.size) rfl rfl);go_wp2_with fail;refine hM.mono ?_;clear hM r0 r1 r2 r3 r4;rintro e w4 ⟨⟨r',rfl,hX2⟩,hb4⟩;obtain⟨j1,a1,c1,rfl,hst1⟩:=hX2;have HS4:=Zh (HS.out.next hb4);have HST1:=Zh hst1;clear hb4 hst1;unfold rV;go_wp2_with (
        first
        |(
          refine wpList_store_row rfl 85 (.tmp 5) (.tmp 50) rfl w2.heap.size #[.slice ao L.length cap,.int .i64 j1,.int .i64 en,.int .i64 a1,.int .i64 c1] rfl rfl 85 _ (HS4.out.fr.at 0 rfl rfl) Yy rfl (YR _ _ _ _ _ _ _ _) ?_;have HS5:=Zh (HS4.out.setR j1 a1 c1);generalize World.setRow w4 w2.heap.size #[.slice ao L.length cap,.int .i64 j1,.int .i64 en,.int .i64 a1,.int .i64 c1]=w5 at HS5⊢;obtain⟨r0,r1,r2,r3,r4⟩:=row5 (HS5.out.fr.at 0 (b:=w2.heap.size) rfl rfl)))
       have HREL2:Hid (YlY ao cap L en Q w2 w5):=Zh (by
        refine⟨_,_,_,_,_,_,n,(Y.bind fun _ j=>Yh L en j JA),HS5.out,HST1.out,HQ2.out,fun u j e=>?_⟩;obtain⟨v,j0,h5,h6⟩:=Rd.bind_inv e;have h7:=YG h6;have h8:=YeS h7.1;have h9:=HYP.out v j0 h5;exact⟨by omega,by show ext.length<=j; omega,by show m.funcs.length<=j; omega⟩)
       go_roundw
       case rel=>repeat (first | exact⟨HREL2.out,rfl⟩ | apply Exists.intro)
       case measure=>
        have e1:=HS5.out.rtm;have e2:=HM0.out;rw[e1,e2];by_cases h5:c1=0
        ·rw[if_pos h5];cases hY2:(Y.bind fun _ j=>Yh L en j JA) with
         |bad A C=>have:=HST1.out; rw[hY2] at this; exact absurd (this.2.1.symm.trans h5) this.2.2
         |
          ok u j=>
          have h10:=HST1.out;rw[hY2] at h10;obtain⟨v,j0,h6,h7⟩:=Rd.bind_inv hY2;have h8:=YG h7;have h9:=HYP.out v j0 h6;have h11:=h10.1;first | rw[if_pos rfl] | rw[if_pos trivial]
          rw[h11];omega
        ·rw[if_neg h5];first | rw[if_pos rfl] | rw[if_pos trivial]
         omega
    |
     false=>
     have hIT:=YfK hYQ hpl;rw[YkI hce] at hIT;have HIT0:=Zh hIT;have h40:=HL.out.len;have HZ3:Hid (w2.heap.size+2<=w3.heap.size):=Zh HS3.out.fr.size;have hltr:w2.heap.size<w3.heap.size:=by have:=HZ3.out; omega
     have HK4:Hid (Fk w2 w3 (w3.alloc (.cells #[.string ⟨#[]⟩,.bool false,.slice none 0 0] 63)) #[.slice ao L.length cap,.int .i64 p,.int .i64 en,.int .i64 0,.int .i64 0] #[ve,vf]):=Zh ⟨HS3.out.fr.next (below_alloc1 w3 _),Keep.of_alloc w3 _⟩;have HN4:=Zh (heap_alloc_new w3 (.cells #[.string ⟨#[]⟩,.bool false,.slice none 0 0] 63));obtain⟨de,hde⟩:∃b,isN L p 7 Ya0=b:=⟨_,rfl⟩;have hI:Calls Tryz.prog 45 #[rV ao cap L en p 0 0,.string Ya0] (w3.alloc (.cells #[.string ⟨#[]⟩,.bool false,.slice none 0 0] 63)) fun e w'=>e= .returned (.bool (isN L p 7 Ya0))/\Below (w3.alloc (.cells #[.string ⟨#[]⟩,.bool false,.slice none 0 0] 63)).heap.size (w3.alloc (.cells #[.string ⟨#[]⟩,.bool false,.slice none 0 0] 63)) w':=YkK (ao:=ao) (cap:=cap) (en:=en) HL.out (YaZ (α:=Unit) () hp) (HT2.out.below HK4.out.fr.below) Ya0 Zd;rw[hde] at hI;unfold rV at hI;clear hIT hYQ hce;obtain⟨r0,r1,r2,r3,r4⟩:=row5 (HS3.out.fr.at 0 (b:=w2.heap.size) rfl rfl);go_wp2_with fail;refine hI.mono ?_;clear hI r0 r1 r2 r3 r4;rintro e w5 ⟨rfl,hb5⟩;have HK5:=Zh (HK4.out.next hb5);have HN5:=Zh ((hb5.block w3.heap.size Zs).trans HN4.out);clear hb5;obtain⟨r0,r1,r2,r3,r4⟩:=row5 (HK5.out.fr.at 0 (b:=w2.heap.size) rfl rfl);obtain⟨f0,f1,f2,f3,f4⟩:=frz5 (HK5.out.fr.at 0 (b:=w2.heap.size) rfl rfl);obtain⟨n0,n1,n2⟩:=row3 HN5.out;obtain⟨p0,p1,p2⟩:=frz3 HN5.out;cases de with
     |
      true=>
      have wp:IntKind.i64.wrap ((p:Int)+1)=p+1:=IntWalk.i64_in _ Zo;have HIT:=HIT0;rw[hde,if_pos rfl] at HIT;have hne3:¬w2.heap.size=w3.heap.size:=Zo;have hne4:¬w3.heap.size=w2.heap.size:=Zo;have HK6:Hid (Fk w2 w3 ((w5.setCell ⟨w3.heap.size,1,none⟩ (.bool true)).setCell ⟨w2.heap.size,1,none⟩ (.int .i64 ((p:Int)+1))) #[.slice ao L.length cap,.int .i64 ((p:Int)+1),.int .i64 en,.int .i64 0,.int .i64 0] #[ve,vf]):=Zh ((HK5.out.setN HZ3.out 1 (.bool true)).setI (.int .i64 ((p:Int)+1)));have HN6:Hid (((w5.setCell ⟨w3.heap.size,1,none⟩ (.bool true)).setCell ⟨w2.heap.size,1,none⟩ (.int .i64 ((p:Int)+1))).heap[w3.heap.size]? =some (.cells #[.string ⟨#[]⟩,.bool true,.slice none 0 0] 63 (0,0))):=Zh (by
       have h1:=Yn5 HN5.out (.bool true);exact((Keep.of_setCell (w5.setCell ⟨w3.heap.size,1,none⟩ (.bool true)) ⟨w2.heap.size,1,none⟩ (.int .i64 ((p:Int)+1))).block w3.heap.size (Zg h1).1 hne4).trans h1)
      go_wp2_with fail;generalize(w5.setCell ⟨w3.heap.size,1,none⟩ (.bool true)).setCell ⟨w2.heap.size,1,none⟩ (.int .i64 ((p:Int)+1))=w6 at HK6 HN6⊢;clear r0 r1 r2 r3 r4 f0 f1 f2 f3 f4 n0 n1 n2 p0 p1 p2;have hNm:=Yd5 (ao:=ao) (cap:=cap) (en:=en) (X:=(.ok () (p+1):Rd Unit)) HL.out (YdC () hpl) (HT2.out.below HK6.out.fr.below);unfold rV at hNm;refine hNm.mono ?_;clear hNm;rintro e w7 ⟨⟨r',s',rfl,hX1,hs'⟩,hb7⟩;obtain⟨j1,a1,c1,rfl,hst1⟩:=hX1;have HX1:Hid (rSt ao cap L en (Yz L en (p+1)) (rV ao cap L en j1 a1 c1)):=Zh ⟨_,_,_,rfl,hst1⟩;have HSN:Hid (∀x j,Yz L en (p+1)= .ok x j->s'=x):=Zh hs';have HK7:=Zh (HK6.out.next hb7);have HN7:=Zh ((hb7.block w3.heap.size (Zg HN6.out).1).trans HN6.out);clear hb7 hst1 hs';unfold rV;go_wp2_with (
       first
       |(
         refine wpList_store_row rfl 85 (.tmp 5) (.tmp 62) rfl w2.heap.size #[.slice ao L.length cap,.int .i64 j1,.int .i64 en,.int .i64 a1,.int .i64 c1] rfl rfl 85 _ (HK7.out.fr.at 0 rfl rfl) Yy rfl (YR _ _ _ _ _ _ _ _) ?_;have HK8:=Zh (HK7.out.setR #[.slice ao L.length cap,.int .i64 j1,.int .i64 en,.int .i64 a1,.int .i64 c1]);have HN8:Hid ((World.setRow w7 w2.heap.size #[.slice ao L.length cap,.int .i64 j1,.int .i64 en,.int .i64 a1,.int .i64 c1]).heap[w3.heap.size]? =some (.cells #[.string ⟨#[]⟩,.bool true,.slice none 0 0] 63 (0,0))):=Zh (((Keep.of_setRow w7 w2.heap.size #[.slice ao L.length cap,.int .i64 j1,.int .i64 en,.int .i64 a1,.int .i64 c1]).block w3.heap.size (Zg HN7.out).1 (by show ¬w3.heap.size=w2.heap.size; omega)).trans HN7.out);generalize World.setRow w7 w2.heap.size #[.slice ao L.length cap,.int .i64 j1,.int .i64 en,.int .i64 a1,.int .i64 c1]=w8 at HK8 HN8⊢;obtain⟨r0,r1,r2,r3,r4⟩:=row5 (HK8.out.fr.at 0 (b:=w2.heap.size) rfl rfl);obtain⟨n0,n1,n2⟩:=row3 HN8.out;obtain⟨p0,p1,p2⟩:=frz3 HN8.out))
      have HK9:=Zh (HK8.out.setN HZ3.out 0 (.string s'));have HN9:=Zh (YlJ HN8.out (.string s'));generalize World.setCell w8 ⟨w3.heap.size,0,none⟩ (.string s')=w9 at HK9 HN9⊢;have hM:=Yat HL.out HX1.out (HT2.out.below HK9.out.fr.below) Y1 rfl;unfold rV at hM;refine hM.mono ?_;clear hM r0 r1 r2 r3 r4 n0 n1 n2 p0 p1 p2;rintro e w10 ⟨⟨r',rfl,hX2⟩,hb10⟩;obtain⟨j2,a2,c2,rfl,hst2⟩:=hX2;have HX2:Hid (rSt ao cap L en ((Yz L en (p+1)).bind fun _ j=>Yh L en j Y1) (rV ao cap L en j2 a2 c2)):=Zh ⟨_,_,_,rfl,hst2⟩;have HK10:=Zh (HK9.out.next hb10);have HN10:=Zh ((hb10.block w3.heap.size (Zg HN9.out).1).trans HN9.out);clear hb10 hst2;unfold rV;go_wp2_with (
       first
       |(
         refine wpList_store_row rfl 85 (.tmp 5) (.tmp 66) rfl w2.heap.size #[.slice ao L.length cap,.int .i64 j2,.int .i64 en,.int .i64 a2,.int .i64 c2] rfl rfl 85 _ (HK10.out.fr.at 0 rfl rfl) Yy rfl (YR _ _ _ _ _ _ _ _) ?_;have HK11:=Zh (HK10.out.setR #[.slice ao L.length cap,.int .i64 j2,.int .i64 en,.int .i64 a2,.int .i64 c2]);have HN11:Hid ((World.setRow w10 w2.heap.size #[.slice ao L.length cap,.int .i64 j2,.int .i64 en,.int .i64 a2,.int .i64 c2]).heap[w3.heap.size]? =some (.cells #[.string s',.bool true,.slice none 0 0] 63 (0,0))):=Zh (((Keep.of_setRow w10 w2.heap.size #[.slice ao L.length cap,.int .i64 j2,.int .i64 en,.int .i64 a2,.int .i64 c2]).block w3.heap.size (Zg HN10.out).1 (by show ¬w3.heap.size=w2.heap.size; omega)).trans HN10.out);generalize World.setRow w10 w2.heap.size #[.slice ao L.length cap,.int .i64 j2,.int .i64 en,.int .i64 a2,.int .i64 c2]=w11 at HK11 HN11⊢;obtain⟨r0,r1,r2,r3,r4⟩:=row5 (HK11.out.fr.at 0 (b:=w2.heap.size) rfl rfl);obtain⟨n0,n1,n2⟩:=row3 HN11.out;obtain⟨p0,p1,p2⟩:=frz3 HN11.out))
      have hSt:=Yg9 ao cap L en HL.out _ _ w11 HX2.out (HT2.out.below HK11.out.fr.below);unfold rV at hSt;refine hSt.mono ?_;clear hSt r0 r1 r2 r3 r4 n0 n1 n2 p0 p1 p2;rintro e w12 ⟨hb12,r',v,b,rfl,hX3,hv,hl⟩;obtain⟨j3,a3,c3,rfl,hst3⟩:=hX3;obtain⟨aob,capb,rfl⟩:=hv.form;have HX3:Hid (rSt ao cap L en (((Yz L en (p+1)).bind fun _ j=>Yh L en j Y1).bind fun _ k=>YM L en (L.length+4) 0 k) (rV ao cap L en j3 a3 c3)):=Zh ⟨_,_,_,rfl,hst3⟩;have HBL:Hid (∀x j,(((Yz L en (p+1)).bind fun _ j=>Yh L en j Y1).bind fun _ k=>YM L en (L.length+4) 0 k)= .ok x j->b=x):=Zh hl;have HK12:=Zh (HK11.out.next hb12);have hz11:w3.heap.size<w11.heap.size:=(Zg HN11.out).1;have HN12:=Zh ((hb12.block w3.heap.size hz11).trans HN11.out);have HV12:Hid (SsV w12 (fun k=>w3.heap.size<k) (.slice aob b.len capb) b):=Zh (hv.keep (fun _ _ _=>rfl) (fun k q _=>by have q:w11.heap.size<=k:=q; omega));clear hb12 hst3 hl hv;unfold rV;go_wp2_with (
       first
       |(
         refine wpList_store_row rfl 85 (.tmp 5) (.tmp 70) rfl w2.heap.size #[.slice ao L.length cap,.int .i64 j3,.int .i64 en,.int .i64 a3,.int .i64 c3] rfl rfl 85 _ (HK12.out.fr.at 0 rfl rfl) Yy rfl (YR _ _ _ _ _ _ _ _) ?_;have HK13:=Zh (HK12.out.setR #[.slice ao L.length cap,.int .i64 j3,.int .i64 en,.int .i64 a3,.int .i64 c3]);have HN13:Hid ((World.setRow w12 w2.heap.size #[.slice ao L.length cap,.int .i64 j3,.int .i64 en,.int .i64 a3,.int .i64 c3]).heap[w3.heap.size]? =some (.cells #[.string s',.bool true,.slice none 0 0] 63 (0,0))):=Zh (((Keep.of_setRow w12 w2.heap.size #[.slice ao L.length cap,.int .i64 j3,.int .i64 en,.int .i64 a3,.int .i64 c3]).block w3.heap.size (Zg HN12.out).1 (by show ¬w3.heap.size=w2.heap.size; omega)).trans HN12.out);have HV13:Hid (SsV (World.setRow w12 w2.heap.size #[.slice ao L.length cap,.int .i64 j3,.int .i64 en,.int .i64 a3,.int .i64 c3]) (fun k=>w3.heap.size<k) (.slice aob b.len capb) b):=Zh (HV12.out.keep (fun k q hk=>(Keep.of_setRow w12 w2.heap.size #[.slice ao L.length cap,.int .i64 j3,.int .i64 en,.int .i64 a3,.int .i64 c3]).block k hk (by have q:w3.heap.size<k:=q; show ¬k=w2.heap.size; omega)) (fun _ q _=>q));generalize World.setRow w12 w2.heap.size #[.slice ao L.length cap,.int .i64 j3,.int .i64 en,.int .i64 a3,.int .i64 c3]=w13 at HK13 HN13 HV13⊢;obtain⟨r0,r1,r2,r3,r4⟩:=row5 (HK13.out.fr.at 0 (b:=w2.heap.size) rfl rfl);obtain⟨n0,n1,n2⟩:=row3 HN13.out;obtain⟨p0,p1,p2⟩:=frz3 HN13.out))
      have HK14:=Zh (HK13.out.setN HZ3.out 2 (.slice aob b.len capb));have HN14:=Zh (YlI HN13.out (.slice aob b.len capb));have HV14:Hid (SsV (World.setCell w13 ⟨w3.heap.size,2,none⟩ (.slice aob b.len capb)) (fun k=>w3.heap.size<k) (.slice aob b.len capb) b):=Zh (HV13.out.keep (fun k q hk=>(Keep.of_setCell w13 ⟨w3.heap.size,2,none⟩ (.slice aob b.len capb)).block k hk (by have q:w3.heap.size<k:=q; show ¬k=w3.heap.size; omega)) (fun _ q _=>q));generalize World.setCell w13 ⟨w3.heap.size,2,none⟩ (.slice aob b.len capb)=w14 at HK14 HN14 HV14⊢;have hM:=Yat HL.out HX3.out (HT2.out.below HK14.out.fr.below) sEnd rfl;unfold rV at hM;refine hM.mono ?_;clear hM r0 r1 r2 r3 r4 n0 n1 n2 p0 p1 p2;rintro e w15 ⟨⟨r',rfl,hX4⟩,hb15⟩;obtain⟨j4,a4,c4,rfl,hst4⟩:=hX4;have HST4:=Zh hst4;have HK15:=Zh (HK14.out.next hb15);have HN15:=Zh ((hb15.block w3.heap.size (Zg HN14.out).1).trans HN14.out);have HV15:Hid (SsV w15 (fun k=>w3.heap.size<k) (.slice aob b.len capb) b):=Zh (HV14.out.keep (fun k _ hk=>hb15.block k hk) (fun _ q _=>q));have HSTEP:=Zh (YiV (p:=p) (Nat.le_succ p) HIT.out HSN.out HBL.out);clear hb15 hst4;unfold rV;go_wp2_with (
       first
       |(
         refine wpList_store_row rfl 85 (.tmp 5) (.tmp 74) rfl w2.heap.size #[.slice ao L.length cap,.int .i64 j4,.int .i64 en,.int .i64 a4,.int .i64 c4] rfl rfl 85 _ (HK15.out.fr.at 0 rfl rfl) Yy rfl (YR _ _ _ _ _ _ _ _) ?_;have HK16:=Zh (HK15.out.setR #[.slice ao L.length cap,.int .i64 j4,.int .i64 en,.int .i64 a4,.int .i64 c4]);have HN16:Hid ((World.setRow w15 w2.heap.size #[.slice ao L.length cap,.int .i64 j4,.int .i64 en,.int .i64 a4,.int .i64 c4]).heap[w3.heap.size]? =some (.cells #[.string s',.bool true,.slice aob b.len capb] 63 (0,0))):=Zh (((Keep.of_setRow w15 w2.heap.size #[.slice ao L.length cap,.int .i64 j4,.int .i64 en,.int .i64 a4,.int .i64 c4]).block w3.heap.size (Zg HN15.out).1 (by show ¬w3.heap.size=w2.heap.size; omega)).trans HN15.out);have HV16:Hid (SsV (World.setRow w15 w2.heap.size #[.slice ao L.length cap,.int .i64 j4,.int .i64 en,.int .i64 a4,.int .i64 c4]) (fun k=>w3.heap.size<k) (.slice aob b.len capb) b):=Zh (HV15.out.keep (fun k q hk=>(Keep.of_setRow w15 w2.heap.size #[.slice ao L.length cap,.int .i64 j4,.int .i64 en,.int .i64 a4,.int .i64 c4]).block k hk (by have q:w3.heap.size<k:=q; show ¬k=w2.heap.size; omega)) (fun _ q _=>q));generalize World.setRow w15 w2.heap.size #[.slice ao L.length cap,.int .i64 j4,.int .i64 en,.int .i64 a4,.int .i64 c4]=w16 at HK16 HN16 HV16⊢;obtain⟨r0,r1,r2,r3,r4⟩:=row5 (HK16.out.fr.at 0 (b:=w2.heap.size) rfl rfl);obtain⟨n0,n1,n2⟩:=row3 HN16.out;obtain⟨p0,p1,p2⟩:=frz3 HN16.out;obtain⟨y0,y1⟩:=row2 (HK16.out.fr.at 1 (b:=w2.heap.size+1) rfl rfl);have HS17:=Zh ((HS3.out.of_fk HK16.out).next (below_alloc1 w16 (.cells #[.string s',.bool true,.slice aob b.len capb] 63)));have HNW:=Zh (YbW w16 (.string s') (.bool true) (.slice aob b.len capb) 63);have HVF:Hid (SsV (w16.alloc (.cells #[.string s',.bool true,.slice aob b.len capb] 63)) (fun k=>(w2.heap.size+2<=k/\vf.ownBlock≠some k)/\ve.ownBlock≠some k) (.slice aob b.len capb) b):=Zh (HV16.out.keep (fun k _ hk=>(below_alloc1 w16 _).block k hk) (fun k q _=>by
          have q:w3.heap.size<k:=q;have h2:=HZ3.out;exact⟨⟨by omega,fun e1=>by have:=(HS3.out.mw.fns.own_lt k e1).2; omega⟩,fun e1=>by have:=(HS3.out.mw.ext.own_lt k e1).2; omega⟩)))
       |(
         at_builtin;refine Yn rfl _ _ 24 rfl (w2.heap.size+2) 63 3 48 YiU _ _ rfl HS17.out.mw.fns (Jc ve _) (Jc ve [⟨s',true,b⟩]) (Yeb ve m.funcs ⟨s',true,b⟩) (some ⟨w16.heap.size,0,none⟩) 1 1 [.string s',.bool true,.slice aob b.len capb] rfl ⟨_,[],rfl,HVF.out,rfl⟩ rfl (fun _=>⟨_,0,rfl,HNW.out⟩) (by simp[Value.oneCell']) Zo Zo HS17.out.fr.size ?_;intro v7 w17 hO3 hK3 hat3;obtain⟨ao7,cap7,rfl⟩:=hO3.form;have hf7:=HS17.out.fr.keep hK3 (fun k q=>(HS17.out.mw.fns.own_lt k q).1);obtain⟨y0,y1⟩:=row2 (hf7.at 1 (b:=w2.heap.size+1) rfl rfl);obtain⟨h0,h1⟩:=frz2 (hf7.at 1 (b:=w2.heap.size+1) rfl rfl);have HSZ:=Zh (HS17.out.pushF (f:=⟨s',true,b⟩) hK3 hO3);clear hO3 hK3 hat3 hf7))
      have HREL2:Hid (YlY ao cap L en Q w2 _):=Zh ⟨_,_,_,_,_,_,n,_,HSZ.out,HST4.out,HSTEP.out.1,fun u j q=>by
       have h5:=HSTEP.out.2 u j q;exact⟨by omega,by show m.externs.length<=j; omega,by show(m.funcs++[_]).length<=j; rw[List.length_append,List.length_singleton]; omega⟩⟩
      go_roundw
      case rel=>first | exact HREL2.out | (repeat (first | exact⟨HREL2.out,rfl⟩ | apply Exists.intro))
      case measure=>
       have e1:=HSZ.out.rtm;have e2:=HM0.out;rw[e1,e2];by_cases h5:c4=0
       ·rw[if_pos h5];first | rw[if_pos rfl] | rw[if_pos trivial]
        have h10:=HST4.out;have h11:=HSTEP.out.2;revert h10 h11;generalize((((Yz L en (p+1)).bind fun _ j=>Yh L en j Y1).bind fun _ k=>YM L en (L.length+4) 0 k).bind fun _ q=>Yh L en q sEnd)=X4;intro h10 h11;cases X4 with
        |bad A C=>exact absurd (h10.2.1.symm.trans h5) h10.2.2
        |
         ok u j=>
         have h12:=h11 u j rfl;have h13:=h10.1;rw[h13];omega
       ·rw[if_neg h5];first | rw[if_pos rfl] | rw[if_pos trivial]
        omega
     |
      false=>
      have HIT:=HIT0;rw[hde,if_neg Zd] at HIT;clear f0 f1 f2 f3 f4 n0 n1 n2 p0 p1 p2;have hNm:=Yd5 (ao:=ao) (cap:=cap) (en:=en) (X:=(.ok () p:Rd Unit)) HL.out (YaZ () hp) (HT2.out.below HK5.out.fr.below);unfold rV at hNm;go_wp2_with fail;refine hNm.mono ?_;clear hNm r0 r1 r2 r3 r4;rintro e w7 ⟨⟨r',s',rfl,hX1,hs'⟩,hb7⟩;obtain⟨j1,a1,c1,rfl,hst1⟩:=hX1;have HX1:Hid (rSt ao cap L en (Yz L en p) (rV ao cap L en j1 a1 c1)):=Zh ⟨_,_,_,rfl,hst1⟩;have HSN:Hid (∀x j,Yz L en p= .ok x j->s'=x):=Zh hs';have HK7:=Zh (HK5.out.next hb7);have HN7:=Zh ((hb7.block w3.heap.size (Zg HN5.out).1).trans HN5.out);clear hb7 hst1 hs';unfold rV;go_wp2_with (
       first
       |(
         refine wpList_store_row rfl 85 (.tmp 5) (.tmp 62) rfl w2.heap.size #[.slice ao L.length cap,.int .i64 j1,.int .i64 en,.int .i64 a1,.int .i64 c1] rfl rfl 85 _ (HK7.out.fr.at 0 rfl rfl) Yy rfl (YR _ _ _ _ _ _ _ _) ?_;have HK8:=Zh (HK7.out.setR #[.slice ao L.length cap,.int .i64 j1,.int .i64 en,.int .i64 a1,.int .i64 c1]);have HN8:Hid ((World.setRow w7 w2.heap.size #[.slice ao L.length cap,.int .i64 j1,.int .i64 en,.int .i64 a1,.int .i64 c1]).heap[w3.heap.size]? =some (.cells #[.string ⟨#[]⟩,.bool false,.slice none 0 0] 63 (0,0))):=Zh (((Keep.of_setRow w7 w2.heap.size #[.slice ao L.length cap,.int .i64 j1,.int .i64 en,.int .i64 a1,.int .i64 c1]).block w3.heap.size (Zg HN7.out).1 (by show ¬w3.heap.size=w2.heap.size; omega)).trans HN7.out);generalize World.setRow w7 w2.heap.size #[.slice ao L.length cap,.int .i64 j1,.int .i64 en,.int .i64 a1,.int .i64 c1]=w8 at HK8 HN8⊢;obtain⟨r0,r1,r2,r3,r4⟩:=row5 (HK8.out.fr.at 0 (b:=w2.heap.size) rfl rfl);obtain⟨n0,n1,n2⟩:=row3 HN8.out;obtain⟨p0,p1,p2⟩:=frz3 HN8.out))
      have HK9:=Zh (HK8.out.setN HZ3.out 0 (.string s'));have HN9:=Zh (YlJ HN8.out (.string s'));generalize World.setCell w8 ⟨w3.heap.size,0,none⟩ (.string s')=w9 at HK9 HN9⊢;have hM:=Yat HL.out HX1.out (HT2.out.below HK9.out.fr.below) Y1 rfl;unfold rV at hM;refine hM.mono ?_;clear hM r0 r1 r2 r3 r4 n0 n1 n2 p0 p1 p2;rintro e w10 ⟨⟨r',rfl,hX2⟩,hb10⟩;obtain⟨j2,a2,c2,rfl,hst2⟩:=hX2;have HX2:Hid (rSt ao cap L en ((Yz L en p).bind fun _ j=>Yh L en j Y1) (rV ao cap L en j2 a2 c2)):=Zh ⟨_,_,_,rfl,hst2⟩;have HK10:=Zh (HK9.out.next hb10);have HN10:=Zh ((hb10.block w3.heap.size (Zg HN9.out).1).trans HN9.out);clear hb10 hst2;unfold rV;go_wp2_with (
       first
       |(
         refine wpList_store_row rfl 85 (.tmp 5) (.tmp 66) rfl w2.heap.size #[.slice ao L.length cap,.int .i64 j2,.int .i64 en,.int .i64 a2,.int .i64 c2] rfl rfl 85 _ (HK10.out.fr.at 0 rfl rfl) Yy rfl (YR _ _ _ _ _ _ _ _) ?_;have HK11:=Zh (HK10.out.setR #[.slice ao L.length cap,.int .i64 j2,.int .i64 en,.int .i64 a2,.int .i64 c2]);have HN11:Hid ((World.setRow w10 w2.heap.size #[.slice ao L.length cap,.int .i64 j2,.int .i64 en,.int .i64 a2,.int .i64 c2]).heap[w3.heap.size]? =some (.cells #[.string s',.bool false,.slice none 0 0] 63 (0,0))):=Zh (((Keep.of_setRow w10 w2.heap.size #[.slice ao L.length cap,.int .i64 j2,.int .i64 en,.int .i64 a2,.int .i64 c2]).block w3.heap.size (Zg HN10.out).1 (by show ¬w3.heap.size=w2.heap.size; omega)).trans HN10.out);generalize World.setRow w10 w2.heap.size #[.slice ao L.length cap,.int .i64 j2,.int .i64 en,.int .i64 a2,.int .i64 c2]=w11 at HK11 HN11⊢;obtain⟨r0,r1,r2,r3,r4⟩:=row5 (HK11.out.fr.at 0 (b:=w2.heap.size) rfl rfl);obtain⟨n0,n1,n2⟩:=row3 HN11.out;obtain⟨p0,p1,p2⟩:=frz3 HN11.out))
      have hSt:=Yg9 ao cap L en HL.out _ _ w11 HX2.out (HT2.out.below HK11.out.fr.below);unfold rV at hSt;refine hSt.mono ?_;clear hSt r0 r1 r2 r3 r4 n0 n1 n2 p0 p1 p2;rintro e w12 ⟨hb12,r',v,b,rfl,hX3,hv,hl⟩;obtain⟨j3,a3,c3,rfl,hst3⟩:=hX3;obtain⟨aob,capb,rfl⟩:=hv.form;have HX3:Hid (rSt ao cap L en (((Yz L en p).bind fun _ j=>Yh L en j Y1).bind fun _ k=>YM L en (L.length+4) 0 k) (rV ao cap L en j3 a3 c3)):=Zh ⟨_,_,_,rfl,hst3⟩;have HBL:Hid (∀x j,(((Yz L en p).bind fun _ j=>Yh L en j Y1).bind fun _ k=>YM L en (L.length+4) 0 k)= .ok x j->b=x):=Zh hl;have HK12:=Zh (HK11.out.next hb12);have hz11:w3.heap.size<w11.heap.size:=(Zg HN11.out).1;have HN12:=Zh ((hb12.block w3.heap.size hz11).trans HN11.out);have HV12:Hid (SsV w12 (fun k=>w3.heap.size<k) (.slice aob b.len capb) b):=Zh (hv.keep (fun _ _ _=>rfl) (fun k q _=>by have q:w11.heap.size<=k:=q; omega));clear hb12 hst3 hl hv;unfold rV;go_wp2_with (
       first
       |(
         refine wpList_store_row rfl 85 (.tmp 5) (.tmp 70) rfl w2.heap.size #[.slice ao L.length cap,.int .i64 j3,.int .i64 en,.int .i64 a3,.int .i64 c3] rfl rfl 85 _ (HK12.out.fr.at 0 rfl rfl) Yy rfl (YR _ _ _ _ _ _ _ _) ?_;have HK13:=Zh (HK12.out.setR #[.slice ao L.length cap,.int .i64 j3,.int .i64 en,.int .i64 a3,.int .i64 c3]);have HN13:Hid ((World.setRow w12 w2.heap.size #[.slice ao L.length cap,.int .i64 j3,.int .i64 en,.int .i64 a3,.int .i64 c3]).heap[w3.heap.size]? =some (.cells #[.string s',.bool false,.slice none 0 0] 63 (0,0))):=Zh (((Keep.of_setRow w12 w2.heap.size #[.slice ao L.length cap,.int .i64 j3,.int .i64 en,.int .i64 a3,.int .i64 c3]).block w3.heap.size (Zg HN12.out).1 (by show ¬w3.heap.size=w2.heap.size; omega)).trans HN12.out);have HV13:Hid (SsV (World.setRow w12 w2.heap.size #[.slice ao L.length cap,.int .i64 j3,.int .i64 en,.int .i64 a3,.int .i64 c3]) (fun k=>w3.heap.size<k) (.slice aob b.len capb) b):=Zh (HV12.out.keep (fun k q hk=>(Keep.of_setRow w12 w2.heap.size #[.slice ao L.length cap,.int .i64 j3,.int .i64 en,.int .i64 a3,.int .i64 c3]).block k hk (by have q:w3.heap.size<k:=q; show ¬k=w2.heap.size; omega)) (fun _ q _=>q));generalize World.setRow w12 w2.heap.size #[.slice ao L.length cap,.int .i64 j3,.int .i64 en,.int .i64 a3,.int .i64 c3]=w13 at HK13 HN13 HV13⊢;obtain⟨r0,r1,r2,r3,r4⟩:=row5 (HK13.out.fr.at 0 (b:=w2.heap.size) rfl rfl);obtain⟨n0,n1,n2⟩:=row3 HN13.out;obtain⟨p0,p1,p2⟩:=frz3 HN13.out))
      have HK14:=Zh (HK13.out.setN HZ3.out 2 (.slice aob b.len capb));have HN14:=Zh (YlI HN13.out (.slice aob b.len capb));have HV14:Hid (SsV (World.setCell w13 ⟨w3.heap.size,2,none⟩ (.slice aob b.len capb)) (fun k=>w3.heap.size<k) (.slice aob b.len capb) b):=Zh (HV13.out.keep (fun k q hk=>(Keep.of_setCell w13 ⟨w3.heap.size,2,none⟩ (.slice aob b.len capb)).block k hk (by have q:w3.heap.size<k:=q; show ¬k=w3.heap.size; omega)) (fun _ q _=>q));generalize World.setCell w13 ⟨w3.heap.size,2,none⟩ (.slice aob b.len capb)=w14 at HK14 HN14 HV14⊢;have hM:=Yat HL.out HX3.out (HT2.out.below HK14.out.fr.below) sEnd rfl;unfold rV at hM;refine hM.mono ?_;clear hM r0 r1 r2 r3 r4 n0 n1 n2 p0 p1 p2;rintro e w15 ⟨⟨r',rfl,hX4⟩,hb15⟩;obtain⟨j4,a4,c4,rfl,hst4⟩:=hX4;have HST4:=Zh hst4;have HK15:=Zh (HK14.out.next hb15);have HN15:=Zh ((hb15.block w3.heap.size (Zg HN14.out).1).trans HN14.out);have HV15:Hid (SsV w15 (fun k=>w3.heap.size<k) (.slice aob b.len capb) b):=Zh (HV14.out.keep (fun k _ hk=>hb15.block k hk) (fun _ q _=>q));have HSTEP:=Zh (YiV (p:=p) (Nat.le_refl p) HIT.out HSN.out HBL.out);clear hb15 hst4;unfold rV;go_wp2_with (
       first
       |(
         refine wpList_store_row rfl 85 (.tmp 5) (.tmp 74) rfl w2.heap.size #[.slice ao L.length cap,.int .i64 j4,.int .i64 en,.int .i64 a4,.int .i64 c4] rfl rfl 85 _ (HK15.out.fr.at 0 rfl rfl) Yy rfl (YR _ _ _ _ _ _ _ _) ?_;have HK16:=Zh (HK15.out.setR #[.slice ao L.length cap,.int .i64 j4,.int .i64 en,.int .i64 a4,.int .i64 c4]);have HN16:Hid ((World.setRow w15 w2.heap.size #[.slice ao L.length cap,.int .i64 j4,.int .i64 en,.int .i64 a4,.int .i64 c4]).heap[w3.heap.size]? =some (.cells #[.string s',.bool false,.slice aob b.len capb] 63 (0,0))):=Zh (((Keep.of_setRow w15 w2.heap.size #[.slice ao L.length cap,.int .i64 j4,.int .i64 en,.int .i64 a4,.int .i64 c4]).block w3.heap.size (Zg HN15.out).1 (by show ¬w3.heap.size=w2.heap.size; omega)).trans HN15.out);have HV16:Hid (SsV (World.setRow w15 w2.heap.size #[.slice ao L.length cap,.int .i64 j4,.int .i64 en,.int .i64 a4,.int .i64 c4]) (fun k=>w3.heap.size<k) (.slice aob b.len capb) b):=Zh (HV15.out.keep (fun k q hk=>(Keep.of_setRow w15 w2.heap.size #[.slice ao L.length cap,.int .i64 j4,.int .i64 en,.int .i64 a4,.int .i64 c4]).block k hk (by have q:w3.heap.size<k:=q; show ¬k=w2.heap.size; omega)) (fun _ q _=>q));generalize World.setRow w15 w2.heap.size #[.slice ao L.length cap,.int .i64 j4,.int .i64 en,.int .i64 a4,.int .i64 c4]=w16 at HK16 HN16 HV16⊢;obtain⟨r0,r1,r2,r3,r4⟩:=row5 (HK16.out.fr.at 0 (b:=w2.heap.size) rfl rfl);obtain⟨n0,n1,n2⟩:=row3 HN16.out;obtain⟨p0,p1,p2⟩:=frz3 HN16.out;obtain⟨y0,y1⟩:=row2 (HK16.out.fr.at 1 (b:=w2.heap.size+1) rfl rfl);have HS17:=Zh ((HS3.out.of_fk HK16.out).next (below_alloc1 w16 (.cells #[.string s',.bool false,.slice aob b.len capb] 63)));have HNW:=Zh (YbW w16 (.string s') (.bool false) (.slice aob b.len capb) 63);have HVF:Hid (SsV (w16.alloc (.cells #[.string s',.bool false,.slice aob b.len capb] 63)) (fun k=>(w2.heap.size+2<=k/\vf.ownBlock≠some k)/\ve.ownBlock≠some k) (.slice aob b.len capb) b):=Zh (HV16.out.keep (fun k _ hk=>(below_alloc1 w16 _).block k hk) (fun k q _=>by
          have q:w3.heap.size<k:=q;have h2:=HZ3.out;exact⟨⟨by omega,fun e1=>by have:=(HS3.out.mw.fns.own_lt k e1).2; omega⟩,fun e1=>by have:=(HS3.out.mw.ext.own_lt k e1).2; omega⟩)))
       |(
         at_builtin;refine Yn rfl _ _ 24 rfl (w2.heap.size+2) 63 3 48 YiU _ _ rfl HS17.out.mw.fns (Jc ve _) (Jc ve [⟨s',false,b⟩]) (Yeb ve m.funcs ⟨s',false,b⟩) (some ⟨w16.heap.size,0,none⟩) 1 1 [.string s',.bool false,.slice aob b.len capb] rfl ⟨_,[],rfl,HVF.out,rfl⟩ rfl (fun _=>⟨_,0,rfl,HNW.out⟩) (by simp[Value.oneCell']) Zo Zo HS17.out.fr.size ?_;intro v7 w17 hO3 hK3 hat3;obtain⟨ao7,cap7,rfl⟩:=hO3.form;have hf7:=HS17.out.fr.keep hK3 (fun k q=>(HS17.out.mw.fns.own_lt k q).1);obtain⟨y0,y1⟩:=row2 (hf7.at 1 (b:=w2.heap.size+1) rfl rfl);obtain⟨h0,h1⟩:=frz2 (hf7.at 1 (b:=w2.heap.size+1) rfl rfl);have HSZ:=Zh (HS17.out.pushF (f:=⟨s',false,b⟩) hK3 hO3);clear hO3 hK3 hat3 hf7))
      have HREL2:Hid (YlY ao cap L en Q w2 _):=Zh ⟨_,_,_,_,_,_,n,_,HSZ.out,HST4.out,HSTEP.out.1,fun u j q=>by
       have h5:=HSTEP.out.2 u j q;exact⟨by omega,by show m.externs.length<=j; omega,by show(m.funcs++[_]).length<=j; rw[List.length_append,List.length_singleton]; omega⟩⟩
      go_roundw
      case rel=>first | exact HREL2.out | (repeat (first | exact⟨HREL2.out,rfl⟩ | apply Exists.intro))
      case measure=>
       have e1:=HSZ.out.rtm;have e2:=HM0.out;rw[e1,e2];by_cases h5:c4=0
       ·rw[if_pos h5];first | rw[if_pos rfl] | rw[if_pos trivial]
        have h10:=HST4.out;have h11:=HSTEP.out.2;revert h10 h11;generalize((((Yz L en p).bind fun _ j=>Yh L en j Y1).bind fun _ k=>YM L en (L.length+4) 0 k).bind fun _ q=>Yh L en q sEnd)=X4;intro h10 h11;cases X4 with
        |bad A C=>exact absurd (h10.2.1.symm.trans h5) h10.2.2
        |
         ok u j=>
         have h12:=h11 u j rfl;have h13:=h10.1;rw[h13];omega
       ·rw[if_neg h5];first | rw[if_pos rfl] | rw[if_pos trivial]
        omega
   ·have l0:decide ((p:Int)<(L.length:Int))=false:=Zf;have l1:decide (p<L.length)=false:=decide_eq_false hpl;have HRQ:=Zh (Ylj hYQ hpl);have HS:=Zh hS;have HNr:=Zh ((hS.fr.below.block w.heap.size hlt2).trans HN2.out);have HBr:=Zh (HB2.out.trans (hS.fr.below.mono HB2.out.size));obtain⟨z0,z1⟩:=row2 HNr.out;obtain⟨x0,x1⟩:=frz2 HNr.out;obtain⟨aoe,cape,rfl⟩:=hS.mw.ext.form;obtain⟨aof,capf,rfl⟩:=hS.mw.fns.form;clear hS hYQ;obtain⟨r0,r1,r2,r3,r4⟩:=row5 (HS.out.fr.at 0 (b:=w2.heap.size) rfl rfl);obtain⟨y0,y1⟩:=row2 (HS.out.fr.at 1 (b:=w2.heap.size+1) rfl rfl);obtain⟨h0,h1⟩:=frz2 (HS.out.fr.at 1 (b:=w2.heap.size+1) rfl rfl);go_wp2;obtain⟨q1,q2⟩:=Yd7 (.slice aoe m.externs.length cape) (.slice aof m.funcs.length capf) HNr.out;refine bodyPost_ret (JH rfl _ _ w.heap.size 30 _ _ (.int .i64 0) (.int .i64 0) rfl rfl rfl q1 Tryz.underlying30 rfl YiN) rfl ⟨HBr.out.trans (q2.below HBr.out.size (fun i hi q=>by have q:i=w.heap.size:=q; omega)),?_⟩;rw[HRQ.out];have hmd:MdV wr (fun k=>w2.heap.size+2<=k) _ _ m:=HS.out.mw.mdV;exact⟨_,_,rfl,hmd.keep (fun k q hk=>q2.block k hk (by have q:w2.heap.size+2<=k:=q; show ¬k=w.heap.size; omega)) (fun k q _=>by have q:w2.heap.size+2<=k:=q; omega)⟩
theorem YbD {tmps:Array Value}{g:Nat}{V:World}{x u v:Value}(t2:tmps[2]? =some (.pointer (some ⟨g,0,none⟩)))(t3:tmps[3]? =some u)(t4:tmps[4]? =some v)
 (h:V.heap[g]? =some (.cells #[x] 44 (0,0))):(results Tryz.f19 tmps).run Tryz.prog V= .ok (.tuple #[.agg #[x],u,v]) V:=by
 have c0:V.cell? ⟨g,0,none⟩=some x:=by simp[World.cell?,h]
 simp[results,Tryz.f19,go_sem,t2,t3,t4,c0]
theorem Yhj (s:ByteArray)(w:World)(hs:s.size<=40000):
 Calls Tryz.prog 19 #[.string s] w (Yir w (Yh4 s)):=by
 have kA:=below_alloc1 w (.cells #[.slice none 0 0] 44);have n0:=heap_alloc_new w (.cells #[.slice none 0 0] 44);have hRd:=Yhi s (w.alloc (.cells #[.slice none 0 0] 44)) hs;have hcod:=Ycq s;unfold Yh4;generalize readB s=R at hRd hcod⊢;have HK:=Zh (And.intro kA n0);clear kA n0;go_enter Tryz.func19,Tryz.ntmps19;go_wp2_with fail;refine hRd.mono ?_;rintro e w3 ⟨hb,hP⟩;obtain⟨kA,n0⟩:=HK.out;have hz:(w.alloc (.cells #[.slice none 0 0] 44)).heap.size=w.heap.size+1:=Zs;have n3:=(hb.block w.heap.size Zo).trans n0;have hb3:Below w.heap.size w w3:=kA.trans (hb.mono Zo);have hlt3:w.heap.size<w3.heap.size:=(Zg n3).1;have c0:w3.cell? ⟨w.heap.size,0,none⟩=some (.slice none 0 0):=by simp[World.cell?,n3]
 have f0:w3.frozen? ⟨w.heap.size,0,none⟩=false:=by simp[World.frozen?,n3]
 cases R with
 |
  bad a c=>
  subst hP;have hc:(c==0)=false:=by simpa using hcod a c rfl
  have hc2:(c != 0)=true:=by simpa using hcod a c rfl
  have HX:=Zh (And.intro hb3 n3);clear hRd hb hb3 HK hcod kA n0 n3;go_wp2;obtain⟨hb3,n3⟩:=HX.out;obtain⟨p0,pb,_⟩:=Ycs (.slice none 0 0) (.cells #[.slice none 0 0,.slice none 0 0] 30) hb3 n3;exact bodyPost_ret (YbD rfl rfl rfl p0) rfl ⟨pb,rfl⟩
 |
  ok x j=>
  obtain⟨ve,vf,rfl,⟨aoe,cape,rfl,he⟩,hf⟩:=hP;obtain⟨aof,capf,rfl,hf'⟩:=hf;have hf:Yab w3 _ (.slice aof x.funcs.length capf) x.funcs:=⟨aof,capf,rfl,hf'⟩;have HX:=Zh (And.intro hb3 (And.intro n3 hf));clear hRd hb hb3 HK hcod kA n0 n3 he hf hf';by_cases hl:x.externs.length=0
  ·have HL:Hid (Yjt (.ok x j)= .ok x j):=Zh (if_pos hl);have l0:decide ((0:Int)<(x.externs.length:Int))=false:=Zf;have l1:decide (0<x.externs.length)=false:=Zf;clear hl;go_wp2;obtain⟨hb3,n3,hf⟩:=HX.out;obtain⟨p0,pb,pk⟩:=Ycs (.slice aof x.funcs.length capf) (.cells #[.slice aoe x.externs.length cape,.slice aof x.funcs.length capf] 30) hb3 n3;refine bodyPost_ret (YbD rfl rfl rfl p0) rfl ?_;rw[HL.out];exact⟨pb,_,rfl,hf.keep (fun k q hk=>pk.block k hk (by simp at q; omega)) (fun k q _=>by simp at q; omega)⟩
  ·have HL:Hid (Yjt (.ok x j)= .bad 0 1):=Zh (if_neg hl);have l0:decide ((0:Int)<(x.externs.length:Int))=true:=Zt;have l1:decide (0<x.externs.length)=true:=Zt;clear hl;go_wp2;obtain⟨hb3,n3,hf⟩:=HX.out;obtain⟨p0,pb,pk⟩:=Ycs (.slice none 0 0) (.cells #[.slice aoe x.externs.length cape,.slice aof x.funcs.length capf] 30) hb3 n3;refine bodyPost_ret (YbD rfl rfl rfl p0) rfl ?_;rw[HL.out];exact⟨pb,rfl⟩
end Go.Proofs.YteamjdmhdfjopaaGreatDoor
