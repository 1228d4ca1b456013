/- A part of the proof; it holds the texts Red Rdm Sz Rea Fom Fin Rfb Rfk (names and blanks shortened). -/
import Derived.Test.YteamjdmhdfjopaaGreatDoorC19
import Derived.Test.YteamjdmhdfjopaaGreatDoorC32
import Derived.Test.YteamjdmhdfjopaaGreatDoorC24
import Derived.Test.YteamjdmhdfjopaaGreatDoorC1
import Derived.Test.YteamjdmhdfjopaaGreatDoorC18
import Derived.Test.YteamjdmhdfjopaaGreatDoorC10
import Derived.BigRegion
import Derived.Test.YteamjdmhdfjopaaGreatDoorC2
import Derived.Deep.RegionLaw
import Derived.Test.YteamjdmhdfjopaaGreatDoorC9
import Derived.Test.YteamjdmhdfjopaaGreatDoorC5
import Derived.Deep.QuietTactic
import Derived.BigQuiet
namespace Go.Proofs.YteamjdmhdfjopaaGreatDoor
open Go.RowKit
set_option maxRecDepth 100000
set_option maxHeartbeats 8000000
set_option linter.unusedVariables false
set_option linter.unusedSimpArgs false
set_option linter.unnecessarySimpa false
def Yg4 {α:Type}(s:ByteArray)(f:List Tk->Rd α):Rd α:=match Jr s with
 |.bad c x=>.bad x c
 |.ok l _=>f l
def YkS {α:Type}(mb:Nat)(w:World)(P:Nat->α->World->Prop)(R:Rd α)(e:Ending)(w':World):Prop:=
 Keep (fun k=>k=mb\/w.heap.size<=k) w w'/\match R with
 |.ok x _=>e= .returned (.tuple #[.int .i64 0,.int .i64 0])/\∃B,w.heap.size<=B/\P B x w'
 |.bad a c=>e= .returned (.tuple #[.int .i64 a,.int .i64 c])
def YpC {α:Type}(rb mb:Nat)(w1:World)(P:Nat->α->World->Prop)(R:Rd α)(e:Ending)(w':World):Prop:=
 Keep (fun k=>k=rb\/k=mb\/w1.heap.size<=k) w1 w'/\match R with
 |.ok x _=>e= .returned (.tuple #[])/\P w1.heap.size x w'
 |.bad a c=>e=misR a c
theorem YqN (l:List Tk):∀(k:Nat) (h:k<l.length),(Y4 l)[k*3]? =some (.int .i64 l[k].kind)/\(Y4 l)[k*3+1]? =some (.string l[k].text)/\(Y4 l)[k*3+2]? =some (.int .i64 l[k].at_):=by
 induction l with
 |nil=>intro k h; simp at h
 |
  cons x l ih=>
  intro k h;cases k with
  |zero=>simp[Y4]
  |
   succ k=>
   obtain⟨a,b,c⟩:=ih k (by simpa using h);simp only[Y4,List.flatMap_cons] at a b c⊢;refine⟨?_,?_,?_⟩
   ·rw[show(k+1)*3=k*3+3 by omega]; simpa using a
   ·rw[show(k+1)*3+1=k*3+1+3 by omega]; simpa using b
   ·rw[show(k+1)*3+2=k*3+2+3 by omega]; simpa using c
theorem YqO {B:Nat}{e:TypeId}{v:Value}{l:List Tk}{w:World}(h:w.ownsRow B e 3 v l.length (Y4 l)):∃ao cap,v= .slice ao l.length cap/\
 (l≠[]->∃g,ao=some ⟨g,0,none⟩/\g<w.heap.size/\B<=g/\∀(k:Nat) (h:k<l.length),w.cell? ⟨g,0+k*3,none⟩=some (.int .i64 l[k].kind)/\w.cell? ⟨g,0+k*3+1,none⟩=some (.string l[k].text)/\w.cell? ⟨g,0+k*3+2,none⟩=some (.int .i64 l[k].at_)):=by
 rcases h.2 with⟨hv,hz⟩ | ⟨g,cap,cur,hv,hB,hh,hc,_⟩
 ·exact⟨none,0,by rw[hv,hz],fun q=>absurd (List.eq_nil_of_length_eq_zero hz) q⟩
 ·subst hv;refine⟨_,cap,rfl,fun _=>⟨g,rfl,(Zg hh).1,hB,fun k hk=>?_⟩⟩;obtain⟨a,b,c⟩:=YqN l k hk;simp only[Nat.zero_add];exact⟨(h.cellAt _ Zo).trans a,(h.cellAt _ Zo).trans b,(h.cellAt _ Zo).trans c⟩
theorem YdI {R:Ending->World->Prop}{tmps:Array Value}{g:Nat}{V:World}{x y:Value}(t4:tmps[4]? =some (.pointer (some ⟨g,0,none⟩)))(t5:tmps[5]? =some (.pointer (some ⟨g+1,0,none⟩)))
 (b2:V.heap[g]? =some (.cells #[x] 3 (0,0)))(b3:V.heap[g+1]? =some (.cells #[y] 27 (0,0)))
 (hR:R (.returned (.tuple #[x,y])) V):Leaves Tryz.prog Tryz.f40 tmps R [] .returning V:=by
 have c2:V.cell? ⟨g,0,none⟩=some x:=by simp[World.cell?,b2]
 have c3:V.cell? ⟨g+1,0,none⟩=some y:=by simp[World.cell?,b3]
 refine⟨.tuple #[x,y],?_,hR⟩;simp[results,Tryz.f40,go_sem,t4,t5,c2,c3]
theorem YgL {W:World}{g:Nat}{x0 y0:Value}{tx ty:TypeId}(x y:Value)(h0:W.heap[g]? =some (.cells #[x0] tx (0,0)))(h1:W.heap[g+1]? =some (.cells #[y0] ty (0,0))):
 ((W.setCell ⟨g,0,none⟩ x).setCell ⟨g+1,0,none⟩ y).heap[g]? =some (.cells #[x] tx (0,0))/\((W.setCell ⟨g,0,none⟩ x).setCell ⟨g+1,0,none⟩ y).heap[g+1]? =some (.cells #[y] ty (0,0))/\
 Keep (fun k=>k=g\/k=g+1) W ((W.setCell ⟨g,0,none⟩ x).setCell ⟨g+1,0,none⟩ y):=by
 have K1:=Keep.of_setCell W ⟨g,0,none⟩ x;have K2:=Keep.of_setCell (W.setCell ⟨g,0,none⟩ x) ⟨g+1,0,none⟩ y;have n1:=heap_setCell_same W g 0 _ _ x h0;have m1:=(K1.block (g+1) (Zg h1).1 (fun q=>by have:g+1=g:=q; omega)).trans h1;have n2:=heap_setCell_same (W.setCell ⟨g,0,none⟩ x) (g+1) 0 _ _ y m1;have m2:=(K2.block g (Zg n1).1 (fun q=>by have:g=g+1:=q; omega)).trans n1;exact⟨by simpa using m2,by simpa using n2,(K1.mono (T:=fun k=>k=g\/k=g+1) (fun _ _ q=>.inl q)).trans K2 (fun _ _ q=>.inr q)⟩
theorem YoK {α:Type}(s:ByteArray)(m:Int)(F:FuncId)(mb:Nat)(f:List Tk->Rd α)(P:Nat->α->World->Prop)(w:World)(hs:s.size<=40000)
 (hm:w.cell? ⟨2,0,none⟩=some (.int .i64 m))(hE:ErrT w)(hmb:mb<w.heap.size)
 (hcF:∀(args:Array Value) (w:World),(callFunc F args).run Tryz.prog w= .ok (.enter F args) w)
 (hF:∀(l:List Tk) (sp:List (Nat×Nat)) (w1:World) (rb:Nat) (ao:Option Addr) (cap:Nat),Jr s= .ok l sp->Yp w1.heap.size w1 rb ao cap l s.size 0->Keep (fun _=>False) w w1->mb<rb->w.heap.size<=rb->
   Calls Tryz.prog F #[.pointer (some ⟨rb,0,none⟩),.pointer (some ⟨mb,0,none⟩)] w1 (YpC rb mb w1 P (f l)))
 (hP:∀(B:Nat) (x:α) (W W':World),w.heap.size<=B->P B x W->Keep (fun k=>w.heap.size<=k/\k<B) W W'->P B x W'):
 Calls Tryz.prog 40 #[.string s,.func (.func F) #[] #[.pointer (some ⟨mb,0,none⟩)]] w (YkS mb w P (Yg4 s f)):=by
 have hg:2<w.heap.size:=World.block_lt_of_cell? w _ hm;have hgE:3<w.heap.size:=World.block_lt_of_cell? w _ hE;have kA:Keep (fun _=>False) w ((w.alloc (.cells #[.int .i64 0] 3)).alloc (.cells #[.int .i64 0] 27)):=(Keep.of_alloc w _).trans (Keep.of_alloc (S:=fun _=>False) _ _) (fun _ _ q=>q);have hS:=YkR s m ((w.alloc (.cells #[.int .i64 0] 3)).alloc (.cells #[.int .i64 0] 27)) hs ((kA.cell (p:=⟨2,0,none⟩) hg (fun q=>q)).trans hm) ((kA.cell (p:=⟨3,0,none⟩) hgE (fun q=>q)).trans hE);go_enter_defers Tryz.func40,Tryz.ntmps40
 go_wp2_with fail;refine hS.mono ?_;rintro e w1 ⟨hb1,hR⟩;have hz:((w.alloc (.cells #[.int .i64 0] 3)).alloc (.cells #[.int .i64 0] 27)).heap.size=w.heap.size+2:=Zs;have k1:Keep (fun _=>False) ((w.alloc (.cells #[.int .i64 0] 3)).alloc (.cells #[.int .i64 0] 27)) w1:=Keep.of_below hb1;have n0:w1.heap[w.heap.size]? =some (.cells #[.int .i64 0] 3 (0,0)):=(k1.block _ Zo (fun q=>q)).trans (by rw[Below.block (below_alloc1 _ _) _ Zs]; exact heap_alloc_new _ _);have n1:w1.heap[w.heap.size+1]? =some (.cells #[.int .i64 0] 27 (0,0)):=(k1.block _ Zo (fun q=>q)).trans (by have:=heap_alloc_new (w.alloc (.cells #[.int .i64 0] 3)) (.cells #[.int .i64 0] 27); simpa using this);have k01:=kA.trans k1 (fun _ _ q=>q);have hz1:=k1.size;rw[hz] at hz1;clear hS hb1 hm hE hg hgE kA k1 hz;have c0:w1.cell? ⟨w.heap.size,0,none⟩=some (.int .i64 0):=by simp[World.cell?,n0]
 have f0:w1.frozen? ⟨w.heap.size,0,none⟩=false:=by simp[World.frozen?,n0]
 have c1:w1.cell? ⟨w.heap.size+1,0,none⟩=some (.int .i64 0):=by simp[World.cell?,n1]
 have f1:w1.frozen? ⟨w.heap.size+1,0,none⟩=false:=by simp[World.frozen?,n1]
 cases hsc:Jr s with
 |
  bad c x=>
  rw[hsc] at hR;subst hR;have hc:(c != 0)=true:=by simpa using YeR hsc
  have hRT:Yg4 s f= .bad x c:=by unfold Yg4; rw[hsc]
  clear hF hP hsc;go_wp2;obtain⟨a0,a1,ak⟩:=YgL (.int .i64 x) (.int .i64 c) n0 n1;obtain⟨d0,d1,dk⟩:=YgL (.int .i64 x) (.int .i64 c) a0 a1;refine YdI rfl rfl d0 d1 ⟨((k01.mono (fun _ _ q=>q.elim)).trans ak (fun k _ q=>.inr Zo)).trans dk (fun k _ q=>.inr Zo),?_⟩;rw[hRT]
 |
  ok l sp=>
  rw[hsc] at hR;obtain⟨vo,rfl,ho,hnil⟩:=hR;have hRT:Yg4 s f=f l:=by unfold Yg4; rw[hsc]
  obtain⟨hlen,hsm⟩:=YdD hsc;obtain⟨ao,cap,rfl,htk⟩:=YqO ho;obtain⟨a0,a1,ak⟩:=YgL (.int .i64 0) (.int .i64 0) n0 n1;have hzz:((w1.setCell ⟨w.heap.size,0,none⟩ (.int .i64 0)).setCell ⟨w.heap.size+1,0,none⟩ (.int .i64 0)).heap.size=w1.heap.size:=by simp[World.setCell]
  have hrow:=heap_alloc_new ((w1.setCell ⟨w.heap.size,0,none⟩ (.int .i64 0)).setCell ⟨w.heap.size+1,0,none⟩ (.int .i64 0)) (.cells #[.slice ao l.length cap,.int .i64 s.size,.int .i64 0] 157);rw[hzz] at hrow;have hk2:=ak.trans (Keep.of_alloc (S:=fun _=>False) ((w1.setCell ⟨w.heap.size,0,none⟩ (.int .i64 0)).setCell ⟨w.heap.size+1,0,none⟩ (.int .i64 0)) (.cells #[.slice ao l.length cap,.int .i64 s.size,.int .i64 0] 157)) (fun _ _ q=>q.elim);have hz2:(((w1.setCell ⟨w.heap.size,0,none⟩ (.int .i64 0)).setCell ⟨w.heap.size+1,0,none⟩ (.int .i64 0)).alloc (.cells #[.slice ao l.length cap,.int .i64 s.size,.int .i64 0] 157)).heap.size=w1.heap.size+1:=by rw[<-hzz]; simp[World.setCell]
  have hk0:Keep (fun _=>False) w (((w1.setCell ⟨w.heap.size,0,none⟩ (.int .i64 0)).setCell ⟨w.heap.size+1,0,none⟩ (.int .i64 0)).alloc (.cells #[.slice ao l.length cap,.int .i64 s.size,.int .i64 0] 157)):=k01.trans hk2 (fun k hk q=>by omega);have b0:=((Keep.of_alloc (S:=fun _=>False) _ (.cells #[.slice ao l.length cap,.int .i64 s.size,.int .i64 0] 157)).block w.heap.size (Zg a0).1 (fun q=>q)).trans a0;have b1:=((Keep.of_alloc (S:=fun _=>False) _ (.cells #[.slice ao l.length cap,.int .i64 s.size,.int .i64 0] 157)).block (w.heap.size+1) (Zg a1).1 (fun q=>q)).trans a1;have hR:∀W:World,W=(((w1.setCell ⟨w.heap.size,0,none⟩ (.int .i64 0)).setCell ⟨w.heap.size+1,0,none⟩ (.int .i64 0)).alloc (.cells #[.slice ao l.length cap,.int .i64 s.size,.int .i64 0] 157))->
   Yp W.heap.size W w1.heap.size ao cap l s.size 0:=fun W e=>by
   subst e;refine⟨hrow,fun hne=>?_,Nat.zero_le _,by omega,fun x hx=>by have:=hsm x hx; omega,by omega,Nat.le_refl _⟩;obtain⟨g,rfl,hg,hB,hc⟩:=htk hne;have hB2:w.heap.size+2<=g:=by simpa using hB
   have hcell:=fun o=>hk2.cell (p:=⟨g,o,none⟩) hg (fun q=>by rcases q with q | q<;>(have q:g=_:=q; omega));exact⟨g,0,rfl,by omega,by omega,fun k hk=>⟨(hcell _).trans (hc k hk).1,(hcell _).trans (hc k hk).2.1,(hcell _).trans (hc k hk).2.2⟩⟩
  have hFF:=hF l sp _ w1.heap.size ao cap hsc (hR _ rfl) hk0 Zo Zo;have HFF:=Zh hFF;have HP:=Zh hP;have HF2:=Zh (And.intro hk0 (And.intro b0 (And.intro b1 hz2)));have HRT:=Zh hRT;clear hF hP hFF hk0 b0 b1 hz2 hrow hk2 hR htk ho hnil hsm hRT ak a0 a1 hzz hsc;go_wp2_with fail;refine HFF.out.mono ?_;rintro e w3 ⟨hk3,hr3⟩;obtain⟨hk0,b0,b1,hz2⟩:=HF2.out;have hRT:=HRT.out;have d0:=(hk3.block w.heap.size Zo (fun q=>by omega)).trans b0;have d1:=(hk3.block (w.heap.size+1) Zo (fun q=>by omega)).trans b1;have k3:=(hk0.mono (T:=fun k=>k=mb\/w.heap.size<=k) (fun _ _ q=>q.elim)).trans hk3 (fun k _ q=>by omega);cases hfl:f l with
  |
   bad a c=>
   rw[hfl] at hr3 hRT;subst hr3;refine leaves_cons (f:=92) (args:=#[.pointer (some ⟨w.heap.size,0,none⟩),.pointer (some ⟨w.heap.size+1,0,none⟩)]) Zs (by simp[go_sem]) ?_;refine(YlE a c w.heap.size (w.heap.size+1) _ _ _ _ w3 d0 d1 Zo).mono ?_;rintro e u' w4 ⟨rfl,rfl,hk4,m0,m1⟩;show Leaves _ _ _ _ [] .returning w4;refine YdI rfl rfl m0 m1 ⟨k3.trans hk4 (fun k _ q=>by omega),?_⟩;rw[hRT]
  |
   ok x j=>
   rw[hfl] at hr3 hRT;obtain⟨rfl,hP3⟩:=hr3;have c0:w3.cell? ⟨w.heap.size,0,none⟩=some (.int .i64 0):=by simp[World.cell?,d0]
   have f0:w3.frozen? ⟨w.heap.size,0,none⟩=false:=by simp[World.frozen?,d0]
   have c1:w3.cell? ⟨w.heap.size+1,0,none⟩=some (.int .i64 0):=by simp[World.cell?,d1]
   have f1:w3.frozen? ⟨w.heap.size+1,0,none⟩=false:=by simp[World.frozen?,d1]
   obtain⟨a0,a1,ak⟩:=YgL (.int .i64 0) (.int .i64 0) d0 d1;have HE:=Zh (And.intro hRT (And.intro hP3 (And.intro k3 (And.intro a0 (And.intro a1 ak)))));have HZ:=Zh hz2;clear hRT hP3 k3 a0 a1 ak hk0 b0 b1 d0 d1 hk3 hz2 HF2 HRT;go_wp2_with fail;obtain⟨hRT,hP3,k3,a0,a1,ak⟩:=HE.out;have hz2:=HZ.out;refine leaves_cons (f:=92) (args:=#[.pointer (some ⟨w.heap.size,0,none⟩),.pointer (some ⟨w.heap.size+1,0,none⟩)]) Zs (by simp[go_sem]) ?_;refine(YjD ⟨w.heap.size,0,none⟩ ⟨w.heap.size+1,0,none⟩ _).mono ?_;rintro e u' w4 ⟨rfl,rfl,rfl⟩;show Leaves _ _ _ _ [] .returning _;refine YdI rfl rfl a0 a1 ⟨k3.trans ak (fun k _ q=>.inr Zo),?_⟩;rw[hRT];exact⟨rfl,_,by omega,HP.out _ x _ _ Zo hP3 (ak.mono (fun k _ q=>⟨by omega,by omega⟩))⟩
theorem YnG {L:List Tk}{en:Nat}:∀(n i:Nat) (acc l:List ByteArray) (j:Nat),extN L en n i acc= .ok l j->i<j/\l.length+i<=acc.length+j
 |0,i,acc,l,j,h=>by simp[extN] at h
 |
  n+1,i,acc,l,j,h=>by
  unfold extN at h;obtain⟨s,k,h1,h2⟩:=Rd.bind_inv h;have hk:=YaD h1;split at h2
  ·have:=YnG n _ _ _ _ h2;rw[List.length_append,List.length_singleton] at this;omega
  ·cases h2;rw[List.length_append,List.length_singleton];omega
theorem Yhe {L:List Tk}{en i:Nat}{m m':Md}{j:Nat}(h:JY L en i m= .ok m' j):i<j/\m'.externs.length+i<=m.externs.length+j/\m'.funcs.length+i<=m.funcs.length+j:=by
 unfold JY at h;split at h
 ·obtain⟨l,k,h1,h2⟩:=Rd.bind_inv h;obtain⟨u,k2,h3,h4⟩:=Rd.bind_inv h2;have e1:=YnG _ _ _ _ _ h1;have e2:=(Y0 h3).2;cases h4;exact⟨by omega,by show l.length+i<=_; omega,by show m.funcs.length+i<=_; omega⟩
 ·obtain⟨nm,k,h1,h2⟩:=Rd.bind_inv h;obtain⟨u,k2,h3,h4⟩:=Rd.bind_inv h2;obtain⟨b,q,h5,h6⟩:=Rd.bind_inv h4;have e1:=YaD h1;have e2:=(Y0 h3).2;have e3:=Yj0 _ _ _ _ _ h5;have hi:i<=(if isN L i 7 YaQ=true then i+1 else i):=by split<;>omega
  cases h6;exact⟨by omega,by show m.externs.length+i<=_; omega,by show(m.funcs++[_]).length+i<=_; rw[List.length_append,List.length_singleton]; omega⟩
theorem Yo2 (hV:J3)(B rb mb:Nat)(ao:Option Addr)(cap:Nat)(L:List Tk)(en i:Nat)(m:Md)(ve vf:Value)(w:World)(h0:Yp B w rb ao cap L en i)(hm:ModW B rb mb w ve vf m)(hce:m.externs.length<=i)(hcf:m.funcs.length<=i):
 Calls Tryz.prog 43 #[.pointer (some ⟨rb,0,none⟩),.pointer (some ⟨mb,0,none⟩)] w (Yex B rb mb ao cap L en w (JY L en i m)):=by
 cases hc:isN L i 7 Yas with
 |true=>exact Yo1 B rb mb ao cap L en i m ve vf w h0 hm hc Zo
 |false=>exact Yo0 hV B rb mb ao cap L en i m ve vf w h0 hm hc (by have:=h0.le; have:=h0.few; omega)
structure RmE (B rb mb:Nat)(ao:Option Addr)(cap:Nat)(L:List Tk)(en:Nat)(R:Rd Md)(w wr:World)(ve vf:Value)(m:Md)(i n:Nat):Prop where
 fuel:L.length - i<n
 eq:Y2 L en n i m=R
 rdr:Yp B wr rb ao cap L en i
 mod:ModW B rb mb wr ve vf m
 keep:Keep (fun k=>k=rb\/k=mb\/B<=k) w wr
 ce:m.externs.length<=i
 cf:m.funcs.length<=i
def YqJ (B rb mb:Nat)(w:World)(R:Rd Md)(e:Ending)(w':World):Prop:=Keep (fun k=>k=rb\/k=mb\/B<=k) w w'/\match R with
 |.ok x _=>e= .returned (.tuple #[])/\∃ve vf,ModW B rb mb w' ve vf x
 |.bad a c=>e=misR a c
theorem Yni (hV:J3)(B rb mb:Nat)(ao:Option Addr)(cap:Nat)(L:List Tk)(en:Nat)(ve vf:Value)(w:World)(h0:Yp B w rb ao cap L en 0)(hm:ModW B rb mb w ve vf ⟨[],[]⟩):
 Calls Tryz.prog 41 #[.pointer (some ⟨rb,0,none⟩),.pointer (some ⟨mb,0,none⟩)] w (YqJ B rb mb w (Y2 L en (L.length+1) 0 ⟨[],[]⟩)):=by
 have HV:=Zh hV;have hfew:=h0.few;have hR0:Y2 L en (L.length+1) 0 ⟨[],[]⟩=Y2 L en (L.length+1) 0 ⟨[],[]⟩:=rfl;have hst0:∀R,Y2 L en (L.length+1) 0 ⟨[],[]⟩=R->RmE B rb mb ao cap L en R w w ve vf ⟨[],[]⟩ 0 (L.length+1):=fun R q=>⟨by omega,q,h0,hm,Keep.refl _ _,Nat.le_refl _,Nat.le_refl _⟩;have hst:=hst0 _ rfl;generalize Y2 L en (L.length+1) 0 ⟨[],[]⟩=R at hst⊢;clear hV hR0 hst0 h0 hm;go_enter Tryz.func41,Tryz.ntmps41;go_wp2_with fail;go_loopw [] (fun wr=>∃ve vf m i n,RmE B rb mb ao cap L en R w wr ve vf m i n) (fun wr=>L.length - rdI rb wr)
 case atStart=>exact⟨_,_,_,_,_,hst⟩
 case round=>
  clear hst;obtain⟨ve,vf,m,i,n,hS⟩:=hrel;obtain⟨n,rfl⟩:∃q,n=q+1:=⟨n - 1,by have:=hS.fuel; omega⟩;have heq:=hS.eq;have hD:=Ydm B rb ao cap L en i wr hS.rdr;have hle:=hS.rdr.le;unfold Y2 at heq;by_cases hi:i<L.length
  ·rw[if_pos hi] at heq;have hne:¬i=L.length:=Zo;rw[decide_eq_false hne] at hD;have HEQ:=Zh heq;clear heq hne;go_wp2_with fail;refine hD.mono ?_;rintro e w1 ⟨rfl,hk1,_⟩;have hI:=Yo2 HV.out B rb mb ao cap L en i m ve vf w1 (hS.rdr.keep hk1 (fun _ q=>q.elim)) (hS.mod.call (hk1.mono (fun _ _ q=>q.elim))) hS.ce hS.cf;have hinv:∀m' j,JY L en i m= .ok m' j->i<j/\m'.externs.length+i<=m.externs.length+j/\m'.funcs.length+i<=m.funcs.length+j:=fun m' j q=>Yhe q;have HINV:=Zh hinv;have HK1:Hid (Keep (fun k=>k=rb\/k=mb\/B<=k) w w1):=Zh (hS.keep.trans hk1 (fun _ _ q=>q.elim));clear hD hinv hk1;generalize JY L en i m=N at hI HEQ HINV;go_wp2_with fail;refine hI.mono ?_;rintro e w2 ⟨hk2,hP⟩;cases N with
   |
    bad a c=>
    subst hP;refine⟨rfl,HK1.out.trans hk2 (fun _ _ q=>q),?_⟩;rw[<-HEQ.out];rfl
   |
    ok m' j=>
    obtain⟨rfl,hr2,ve',vf',hm2⟩:=hP;obtain⟨q1,q2,q3⟩:=HINV.out _ _ rfl;have HN:Hid (RmE B rb mb ao cap L en R w w2 ve' vf' m' j n):=Zh ⟨by have:=hS.fuel; have:=hr2.le; omega,HEQ.out,hr2,hm2,HK1.out.trans hk2 (fun _ _ q=>q),by have:=hS.ce; omega,by have:=hS.cf; omega⟩;have HRR:=Zh hS.rdr;clear hI hk2 hm2 hr2 hS;go_wp2_with fail;go_roundw
    case rel=>exact⟨_,_,_,_,_,HN.out⟩
    case measure=>
     have e1:=HN.out.rdr.rdI;have e2:=HRR.out.rdI;rw[e1,e2];omega
  ·rw[if_neg hi] at heq;have he:i=L.length:=Zo;rw[decide_eq_true he] at hD;have HEQ:=Zh heq;clear heq he hi;go_wp2_with fail;refine hD.mono ?_;rintro e w1 ⟨rfl,hk1,_⟩;have HX:=Zh (And.intro (hS.keep.trans hk1 (fun _ _ q=>q.elim)) (hS.mod.call (hk1.mono (fun _ _ q=>q.elim))));clear hD hk1 hS;go_wp2_with fail;go_end0
   rw[<-HEQ.out];exact⟨HX.out.1,rfl,_,_,HX.out.2⟩
def Rd.coded {α:Type}(r:Rd α):Prop:=∀a c,r= .bad a c->¬c=0
theorem Rd.coded_bind {α β:Type}{r:Rd α}{f:α->Nat->Rd β}(h:r.coded)(k:∀x j,r= .ok x j->(f x j).coded):(r.bind f).coded:=by
 cases r with
 |bad a c=>intro a' c' e; cases e; exact h _ _ rfl
 |ok x j=>exact k x j rfl
theorem Rd.coded_ok {α:Type}(x:α)(j:Nat):(Rd.ok x j).coded:=fun _ _ e=>by cases e
theorem Rd.coded_bad {α:Type}{a:Nat}{c:Int}(h:¬c=0):(Rd.bad a c:Rd α).coded:=fun _ _ e=>by cases e; exact h
theorem Yac {α:Type}{L:List Tk}{en i:Nat}{code:Int}(h:¬code=0):(JA L en i code:Rd α).coded:=by
 unfold JA;refine Rd.coded_bad ?_;split
 ·exact h
 ·decide
theorem YaF {L:List Tk}{en i:Nat}{s:ByteArray}:(YG L en i s).coded:=by
 unfold YG;split
 ·exact Rd.coded_ok _ _
 ·exact Yac Zd
theorem YdM {L:List Tk}{en i:Nat}:(Jn L en i).coded:=by
 unfold Jn;split
 ·exact Yac Zd
 ·split
  ·exact Rd.coded_ok _ _
  ·exact Yac Zd
theorem Ji {L:List Tk}{en:Nat}{pat:Bool}:∀(n deep i:Nat) (acc:Ts),(Yc L en pat n deep i acc).coded
 |0,deep,i,acc=>by rw[Yc]; exact Rd.coded_ok _ _
 |
  n+1,deep,i,acc=>by
  unfold Yc;split
  ·exact Rd.coded_ok _ _
  ·split
   ·exact Ji n _ _ _
   ·split
    ·exact Ji n _ _ _
    ·split
     ·exact Ji n _ _ _
     ·split
      ·exact Ji n _ _ _
      ·split
       ·split
        ·exact Rd.coded_bad Zd
        ·exact Rd.coded_bind (Ji n _ _ _) fun _ _ _=>Rd.coded_bind YaF fun _ _ _=>Ji n _ _ _
       ·split
        ·split
         ·exact Rd.coded_bad Zd
         ·split
          ·exact Rd.coded_bad Zd
          ·exact Rd.coded_bind YdM fun _ _ _=>Rd.coded_bind (Ji n _ _ _) fun _ _ _=>Rd.coded_bind YaF fun _ _ _=>Ji n _ _ _
        ·exact Rd.coded_ok _ _
theorem Ycn {L:List Tk}{en:Nat}{pat:Bool}{i:Nat}:(Jo L en pat i).coded:=by
 unfold Jo;refine Rd.coded_bind (Ji _ _ _ _) fun l j _=>?_;split
 ·exact Yac Zd
 ·exact Rd.coded_ok _ _
section
variable {L:List Tk}{en:Nat}
mutual
theorem Yf5:∀(n blocks i:Nat) (left:Ts) (tests:List (Ts×Ts)),L.length - i+1<=n->(Y9 L en n blocks i left tests).coded
 |0,blocks,i,left,tests,hf=>by omega
 |
  n+1,blocks,i,left,tests,hf=>by
  by_cases hc:isN L i 6 YC=true
  ·have hl:=Jf hc;rw[YgX hc];refine Rd.coded_bind Ycn fun e j he=>Rd.coded_bind YaF fun u k hm=>?_;have e1:=J0 he;have e2:=(Y0 hm).2;have e3:=Jf (Y0 hm).1;split
   ·rename_i hb
    have e4:=Jf hb;split
    ·exact Yac Zd
    ·exact Rd.coded_bind (YeO n _ _ Zo) fun _ _ _=>Rd.coded_ok _ _
   ·refine Rd.coded_bind Ycn fun p m hp=>?_;have e5:=J0 hp;exact Yf5 n _ _ _ _ Zo
  ·have hc:isN L i 6 YC=false:=by simpa using hc
   rw[Yjb hc];exact Rd.coded_bind YaF fun _ _ _=>Rd.coded_bind Ycn fun _ _ _=>Rd.coded_ok _ _
theorem YeO:∀(n blocks i:Nat),L.length - i+3<=n->(YA L en n blocks i).coded
 |0,blocks,i,hf=>by omega
 |
  n+1,blocks,i,hf=>by
  unfold YA;split
  ·exact Yac Zd
  ·exact Ygf n _ _ _ Zo
theorem Ygf:∀(n blocks i:Nat) (acc:Ss),L.length - i+2<=n->(JD L en n blocks i acc).coded
 |0,blocks,i,acc,hf=>by omega
 |
  n+1,blocks,i,acc,hf=>by
  unfold JD;refine Rd.coded_bind Ycn fun left j hl=>?_;have e1:=J0 hl;refine Rd.coded_bind (Yf5 n _ _ _ _ Zo) fun s k hs=>?_;have e2:=YeQ _ _ _ _ _ _ _ hs;split
  ·rename_i hb
   have e3:=Jf hb;split
   ·exact Rd.coded_ok _ _
   ·exact Ygf n _ _ _ Zo
  ·split
   ·exact Rd.coded_ok _ _
   ·exact Yac Zd
end
end
theorem YiG {L:List Tk}{en:Nat}:∀(n i:Nat) (acc:List ByteArray),L.length - i+1<=n->(extN L en n i acc).coded
 |0,i,acc,h=>by omega
 |
  n+1,i,acc,h=>by
  unfold extN;refine Rd.coded_bind YdM fun s k hs=>?_;have e:=YaD hs;split
  ·rename_i hc
   have e3:=Jf hc;exact YiG n _ _ Zo
  ·exact Rd.coded_ok _ _
theorem Ylp {L:List Tk}{en i:Nat}{m:Md}:(JY L en i m).coded:=by
 unfold JY;split
 ·exact Rd.coded_bind (YiG _ _ _ Zo) fun _ _ _=>Rd.coded_bind YaF fun _ _ _=>Rd.coded_ok _ _
 ·refine Rd.coded_bind YdM fun _ _ _=>Rd.coded_bind YaF fun _ k hk=>Rd.coded_bind (YeO _ _ _ Zo) fun _ _ _=>Rd.coded_ok _ _
theorem Yfb {L:List Tk}{en:Nat}:∀(n i:Nat) (m:Md),L.length - i<n->(Y2 L en n i m).coded
 |0,i,m,h=>by omega
 |
  n+1,i,m,h=>by
  unfold Y2;split
  ·refine Rd.coded_bind Ylp fun m' j hj=>?_;have:=(Yhe hj).1;exact Yfb n _ _ Zo
  ·exact Rd.coded_ok _ _
theorem Yj7 (s:ByteArray):readB s=Yg4 s fun l=>Y2 l s.size (l.length+1) 0 ⟨[],[]⟩:=rfl
theorem Yje {α:Type}{s:ByteArray}{f:List Tk->Rd α}(h:∀l,(f l).coded):(Yg4 s f).coded:=by
 unfold Yg4;split
 ·rename_i hs
  exact Rd.coded_bad (YeR hs)
 ·exact h _
theorem Ygb (s:ByteArray):(readB s).coded:=Yje fun l=>Yfb _ _ _ Zo
def MdV (w:World)(S:Nat->Prop)(ve vf:Value)(m:Md):Prop:=JG w S ve m.externs/\YaV w S vf m.funcs
theorem MdV.keep {w w':World}{S T:Nat->Prop}{ve vf:Value}{m:Md}(h:MdV w S ve vf m)(hk:∀k,S k->k<w.heap.size->w'.heap[k]? =w.heap[k]?)(hT:∀k,S k->k<w.heap.size->T k):MdV w' T ve vf m:=⟨h.1.keep hk hT,h.2.keep hk hT⟩
theorem ModW.mdV {B rb mb:Nat}{w:World}{ve vf:Value}{m:Md}(h:ModW B rb mb w ve vf m):MdV w (fun k=>B<=k) ve vf m:=by
 refine⟨h.ext.stV,?_⟩;obtain⟨xs,ho,hf⟩:=h.fns;exact YaV.of_owns ho hf (fun k q=>q.1.1) (fun k _ q=>q)
def Yoc (w:World)(R:Rd Md)(e:Ending)(w':World):Prop:=Below w.heap.size w w'/\match R with
 |.ok m _=>∃ve vf,e= .returned (.tuple #[.agg #[ve,vf],.int .i64 0,.int .i64 0])/\MdV w' (fun k=>w.heap.size<=k) ve vf m
 |.bad a c=>e= .returned (.tuple #[.agg #[.slice none 0 0,.slice none 0 0],.int .i64 a,.int .i64 c])
theorem Yj9 {W:World}{g:Nat}{x0 y0:Value}{t:TypeId}(x y:Value)(h:W.heap[g]? =some (.cells #[x0,y0] t (0,0))):
 ((W.setCell ⟨g,0,none⟩ x).setCell ⟨g,1,none⟩ y).heap[g]? =some (.cells #[x,y] t (0,0))/\Keep (fun k=>k=g) W ((W.setCell ⟨g,0,none⟩ x).setCell ⟨g,1,none⟩ y):=by
 have K1:=Keep.of_setCell W ⟨g,0,none⟩ x;have K2:=Keep.of_setCell (W.setCell ⟨g,0,none⟩ x) ⟨g,1,none⟩ y;have n1:=heap_setCell_same W g 0 _ _ x h;have n2:=heap_setCell_same (W.setCell ⟨g,0,none⟩ x) g 1 _ _ y n1;exact⟨by simpa using n2,K1.trans K2 (fun _ _ q=>q)⟩
theorem Yd8 {tmps:Array Value}{g:Nat}{V:World}{x y u v:Value}(t2:tmps[2]? =some (.pointer (some ⟨g,0,none⟩)))(t3:tmps[3]? =some u)(t4:tmps[4]? =some v)
 (h:V.heap[g]? =some (.cells #[x,y] 26 (0,0))):(results Tryz.f11 tmps).run Tryz.prog V= .ok (.tuple #[.agg #[x,y],u,v]) V:=by
 have c0:V.cell? ⟨g,0,none⟩=some x:=by simp[World.cell?,h]
 have c1:V.cell? ⟨g,1,none⟩=some y:=by simp[World.cell?,h]
 simp[results,Tryz.f11,go_sem,t2,t3,t4,c0,c1]
theorem Yhr (hV:J3)(s:ByteArray)(m:Int)(w:World)(hs:s.size<=40000)(hm:w.cell? ⟨2,0,none⟩=some (.int .i64 m))(hE:ErrT w):
 Calls Tryz.prog 11 #[.string s] w (Yoc w (readB s)):=by
 have hg:2<w.heap.size:=World.block_lt_of_cell? w _ hm;have hgE:3<w.heap.size:=World.block_lt_of_cell? w _ hE;have kA:Keep (fun _=>False) w ((w.alloc (.cells #[.slice none 0 0,.slice none 0 0] 26)).alloc (.cells #[.slice none 0 0,.slice none 0 0] 26)):=(Keep.of_alloc w _).trans (Keep.of_alloc (S:=fun _=>False) _ _) (fun _ _ q=>q);have hz:((w.alloc (.cells #[.slice none 0 0,.slice none 0 0] 26)).alloc (.cells #[.slice none 0 0,.slice none 0 0] 26)).heap.size=w.heap.size+2:=Zs;have n0:((w.alloc (.cells #[.slice none 0 0,.slice none 0 0] 26)).alloc (.cells #[.slice none 0 0,.slice none 0 0] 26)).heap[w.heap.size]? =some (.cells #[.slice none 0 0,.slice none 0 0] 26 (0,0)):=by
  rw[Below.block (below_alloc1 _ _) _ Zs]; exact heap_alloc_new _ _
 have n1:((w.alloc (.cells #[.slice none 0 0,.slice none 0 0] 26)).alloc (.cells #[.slice none 0 0,.slice none 0 0] 26)).heap[w.heap.size+1]? =some (.cells #[.slice none 0 0,.slice none 0 0] 26 (0,0)):=by
  have:=heap_alloc_new (w.alloc (.cells #[.slice none 0 0,.slice none 0 0] 26)) (.cells #[.slice none 0 0,.slice none 0 0] 26); simpa using this
 have hX:∀W:World,W=((w.alloc (.cells #[.slice none 0 0,.slice none 0 0] 26)).alloc (.cells #[.slice none 0 0,.slice none 0 0] 26))->
  Calls Tryz.prog 40 #[.string s,.func (.func 41) #[] #[.pointer (some ⟨w.heap.size+1,0,none⟩)]] W (YkS (w.heap.size+1) W (fun B x W'=>∃rb ve vf,ModW B rb (w.heap.size+1) W' ve vf x) (readB s)):=fun W hW=>by
  rw[<-hW] at kA hz n0 n1;rw[Yj7];refine YoK s m 41 (w.heap.size+1) _ (fun B x W'=>∃rb ve vf,ModW B rb (w.heap.size+1) W' ve vf x) W hs ((kA.cell (p:=⟨2,0,none⟩) hg (fun q=>q)).trans hm) ((kA.cell (p:=⟨3,0,none⟩) hgE (fun q=>q)).trans hE) Zo ?_ ?_ ?_
  ·intro args w; simp[go_sem]
  ·intro l sp w1 rb ao cap hsc hr hk hmr hrb;refine(Yni hV w1.heap.size rb (w.heap.size+1) ao cap l s.size (.slice none 0 0) (.slice none 0 0) w1 hr ⟨(hk.block _ (Zg n1).1 (fun q=>q)).trans n1,by have:=hk.size; omega,by omega,hr.low,OwnR.nil (fun _=>rfl),OwnR.nil (fun _=>rfl)⟩).mono ?_;rintro e w2 ⟨hk2,hR⟩;refine⟨hk2,?_⟩;revert hR;cases Y2 l s.size (l.length+1) 0 ⟨[],[]⟩ with
   |bad a c=>exact id
   |ok x j=>exact fun⟨h1,ve,vf,h2⟩=>⟨h1,rb,ve,vf,h2⟩
  ·rintro B x W1 W2 hB ⟨rb,ve,vf,hM⟩ hk;exact⟨rb,ve,vf,(hk.block _ hM.lt (fun q=>by omega)).trans hM.row,hM.low,hM.apart,hM.rlow,hM.ext.keep (Yaj _) hk (fun k q=>q.2),hM.fns.keep (Yal _ _) hk (fun k q=>q.2)⟩
 have hRd:=hX _ rfl;have hcod:=Ygb s;generalize readB s=R at hRd hcod⊢;have HK:=Zh (And.intro kA (And.intro n0 hz));clear hX hm hE hg hgE kA n0 n1 hz;go_enter Tryz.func11,Tryz.ntmps11;go_wp2_with fail;refine hRd.mono ?_;rintro e w3 ⟨hk3,hP⟩;obtain⟨kA,n0,hz⟩:=HK.out;have n3:=(hk3.block w.heap.size Zo (fun q=>by omega)).trans n0;have hb3:Below w.heap.size w w3:=(kA.trans hk3 (fun k hk q=>by omega)).below (Nat.le_refl _) (fun _ _ q=>q);have c0:w3.cell? ⟨w.heap.size,0,none⟩=some (.slice none 0 0):=by simp[World.cell?,n3]
 have c1:w3.cell? ⟨w.heap.size,1,none⟩=some (.slice none 0 0):=by simp[World.cell?,n3]
 have f0:w3.frozen? ⟨w.heap.size,0,none⟩=false:=by simp[World.frozen?,n3]
 have f1:w3.frozen? ⟨w.heap.size,1,none⟩=false:=by simp[World.frozen?,n3]
 cases R with
 |
  bad a c=>
  subst hP;have hc:(c != 0)=true:=by simpa using hcod a c rfl
  have HX:=Zh (And.intro hb3 n3);clear hRd hk3 hb3 HK hcod kA n0 n3;go_wp2;obtain⟨hb3,n3⟩:=HX.out;obtain⟨p0,pk⟩:=Yj9 (.slice none 0 0) (.slice none 0 0) n3;exact bodyPost_ret (Yd8 rfl rfl rfl p0) rfl ⟨hb3.trans (pk.below hb3.size (fun i hi q=>by omega)),rfl⟩
 |
  ok x j=>
  obtain⟨rfl,B,hB,rb,ve,vf,hM⟩:=hP;obtain⟨aoe,cape,rfl⟩:=hM.ext.form;obtain⟨aof,capf,rfl⟩:=hM.fns.form;have HX:=Zh (And.intro hb3 (And.intro n3 (hM.mdV)));have d0:=hM.c0;have d1:=hM.c1;clear hRd hk3 hb3 HK hcod kA n0 n3 hM;go_wp2;obtain⟨hb3,n3,hmd⟩:=HX.out;obtain⟨p0,pk⟩:=Yj9 (.slice aoe x.externs.length cape) (.slice aof x.funcs.length capf) n3;exact bodyPost_ret (Yd8 rfl rfl rfl p0) rfl ⟨hb3.trans (pk.below hb3.size (fun i hi q=>by omega)),_,_,rfl,hmd.keep (fun k q hk=>pk.block k hk Zo) (fun k q _=>by omega)⟩
def Md.fine (m:Md):Prop:=m.externs.length<=1000000000000/\m.funcs.length<=1000000000000/\∀f∈m.funcs,f.sents.fine/\f.sents.len<=1000000000000
theorem strs_get {w:World}:∀(l:List ByteArray) (b off k:Nat),YeK w l b off->(h:k<l.length)->w.cell? ⟨b,off+k,none⟩=some (.string l[k])
 |[],_,_,_,_,h=>by simp at h
 |x::l,b,off,0,⟨h0,_⟩,_=>h0
 |
  x::l,b,off,k+1,⟨_,h2⟩,h=>by
  have:=strs_get l b (off+1) k h2 (by simpa using h);rw[show off+(k+1)=off+1+k by omega];exact this
theorem Yb9 {w:World}{S:Nat->Prop}:∀(l:List Fn) (b off k:Nat),funcsAt w S l b off->(h:k<l.length)->w.cell? ⟨b,off+k*3,none⟩=some (.string l[k].name)/\w.cell? ⟨b,off+k*3+1,none⟩=some (.bool l[k].entry)/\∃v,w.cell? ⟨b,off+k*3+2,none⟩=some v/\SsV w S v l[k].sents
 |[],_,_,_,_,h=>by simp at h
 |x::l,b,off,0,⟨h0,h1,h2,_⟩,_=>⟨by simpa using h0,by simpa using h1,by simpa using h2⟩
 |
  x::l,b,off,k+1,⟨_,_,_,h2⟩,h=>by
  have:=Yb9 l b (off+3) k h2 (by simpa using h);rw[show off+(k+1)*3=off+3+k*3 by omega];exact this
structure FoS (W0:World)(R Y:Int)(bl:Ss)(ao:Option Addr)(wr:World)(k:Nat)(rest:Ss):Prop where
 below:Below W0.heap.size W0 wr
 len:k+rest.len=bl.len
 tail:rest≠.nil->∃g o,ao=some ⟨g,o,none⟩/\rest.at W0 (fun _=>True) g (o+k*5)
 fine:rest.fine
 eq:R=orC (Ss.form 0 rest) Y
structure FoF (W0:World)(R:Int)(l:List Fn)(wr:World)(k:Nat):Prop where
 below:Below W0.heap.size W0 wr
 le:k<=l.length
 eq:R=Jw (l.drop k)
structure FoE (W0:World)(R X:Int)(l:List ByteArray)(wr:World)(k:Nat):Prop where
 below:Below W0.heap.size W0 wr
 le:k<=l.length
 eq:R=orC (JE (l.drop k)) X
theorem YpA (m:Md)(ve vf:Value)(w:World)(hm:MdV w (fun _=>True) ve vf m)(hfine:m.fine):
 Calls Tryz.prog 14 #[.agg #[ve,vf]] w (FmQ (Yat m) w):=by
 obtain⟨ae,ce,rfl,he⟩:=hm.1;obtain⟨af,cf,rfl,hf⟩:=hm.2;obtain⟨le,lf,hff⟩:=hfine;have hbx:=below_alloc1 w (.cells #[.slice ae m.externs.length ce,.slice af m.funcs.length cf] 26);have nx:=heap_alloc_new w (.cells #[.slice ae m.externs.length ce,.slice af m.funcs.length cf] 26);have hE:JG (w.alloc (.cells #[.slice ae m.externs.length ce,.slice af m.funcs.length cf] 26)) (fun _=>True) (.slice ae m.externs.length ce) m.externs:=JG.keep (S:=fun _=>True) ⟨ae,ce,rfl,he⟩ (fun k _ hk=>hbx.block k hk) (fun _ _ _=>trivial);have hF:YaV (w.alloc (.cells #[.slice ae m.externs.length ce,.slice af m.funcs.length cf] 26)) (fun _=>True) (.slice af m.funcs.length cf) m.funcs:=YaV.keep (S:=fun _=>True) ⟨af,cf,rfl,hf⟩ (fun k _ hk=>hbx.block k hk) (fun _ _ _=>trivial);have hEQ:Yat m=orC (JE m.externs) (Jw m.funcs):=rfl;generalize Yat m=R at hEQ⊢;have HQ:=Zh (And.intro hff hEQ);clear hff hEQ;have c0:(w.alloc (.cells #[.slice ae m.externs.length ce,.slice af m.funcs.length cf] 26)).cell? ⟨w.heap.size,0,none⟩=some (.slice ae m.externs.length ce):=(cell_of_row _ w.heap.size 0 _ _ (0,0) nx).trans rfl;have c1:(w.alloc (.cells #[.slice ae m.externs.length ce,.slice af m.funcs.length cf] 26)).cell? ⟨w.heap.size,1,none⟩=some (.slice af m.funcs.length cf):=(cell_of_row _ w.heap.size 1 _ _ (0,0) nx).trans rfl;go_enter Tryz.func14,Tryz.ntmps14;go_wp2_with fail;have HP:=Zh (And.intro hbx (And.intro hE (And.intro hF (And.intro c0 c1))));clear hE hF hm he hf;generalize w.alloc (.cells #[.slice ae m.externs.length ce,.slice af m.funcs.length cf] 26)=w1 at HP c0 c1 hbx nx⊢;have HNW:=Zh (And.intro hbx nx);clear hbx nx;go_loopw [15] (fun i wr=>∃k:Nat,i= .int .i64 k/\FoE w1 R (Jw m.funcs) m.externs wr k) (fun i _=>m.externs.length - (intOf i).toNat)
 case atStart=>exact⟨0,rfl,Below.refl _ _,Nat.zero_le _,HQ.out.2⟩
 case round=>
  obtain⟨k,rfl,hS⟩:=hrel;clear c0 c1;have hle:=hS.le;by_cases hk:k<m.externs.length
  ·have l0:decide ((k:Int)<(m.externs.length:Int))=true:=Zt;have l1:decide (k<m.externs.length)=true:=decide_eq_true hk;obtain⟨hbx,⟨ae',ce',e1,he⟩,_⟩:=HP.out;cases e1;obtain⟨g,o,rfl,_,hat,_⟩:=he (fun q=>by rw[q] at hk; cases hk);have q0:=strs_get m.externs g o k hat hk;have p0:=(hS.below.cell (p:=⟨g,o+k,none⟩) (World.block_lt_of_cell? w1 _ q0)).trans q0;have hN:=Yij m.externs[k] wr;have hEQ:R=orC (J6 m.externs[k]) (orC (JE (m.externs.drop (k+1))) (Jw m.funcs)):=by
    rw[hS.eq,List.drop_eq_getElem_cons hk];exact Yb6 _ _ _
   have HEQ:=Zh hEQ;generalize m.externs[k]=s at p0 hN HEQ;generalize J6 s=E at hN HEQ;clear hEQ q0 hat he hbx;go_wp2_with fail;refine hN.mono ?_;rintro e w2 ⟨rfl,hb2⟩;clear hN;by_cases h0:E=0
   ·subst h0;have HN:Hid (FoE w1 R (Jw m.funcs) m.externs w2 (k+1)):=Zh ⟨hS.below.trans (hb2.mono hS.below.size),hk,HEQ.out⟩;clear HEQ hb2;go_wp2;go_roundw
    case rel=>exact⟨k+1,by go_num,HN.out⟩
    case measure=>simp[intOf]; omega
   ·have hc:(E != 0)=true:=by simpa using h0
    have HX:Hid (R=E):=Zh (by rw[HEQ.out]; unfold orC; rw[if_neg h0]);have HB:=Zh (HP.out.1.trans ((hS.below.trans (hb2.mono hS.below.size)).mono HP.out.1.size));clear h0 HEQ hb2;go_wp2;go_ret;exact⟨by rw[HX.out]; rfl,HB.out⟩
  ·have l0:decide ((k:Int)<(m.externs.length:Int))=false:=Zf;have l1:decide (k<m.externs.length)=false:=decide_eq_false hk;have hR:R=Jw m.funcs:=by rw[hS.eq,List.drop_eq_nil_of_le Zo]; rfl
   obtain⟨hbx,_,hF,d0,d1⟩:=HP.out;have hlt:=(Zg HNW.out.2).1;have e1:=(hS.below.cell (p:=⟨w.heap.size,1,none⟩) hlt).trans d1;have HF:=Zh (YaV.keep (T:=fun _=>True) hF (fun k _ hk=>hS.below.block k hk) (fun _ _ _=>trivial));have HB:=Zh (hbx.trans (hS.below.mono hbx.size));have HRR:=Zh hR;clear hR hbx hF d0 d1 hS HP HNW;go_wp2_with fail;obtain⟨w3,hw3⟩:∃w3,w3=wr:=⟨_,rfl⟩;rw[<-hw3] at HF HB e1⊢;clear hw3;go_loopw [28] (fun i wr=>∃k:Nat,i= .int .i64 k/\FoF w3 R m.funcs wr k) (fun i _=>m.funcs.length - (intOf i).toNat)
   case atStart=>exact⟨0,rfl,Below.refl _ _,Nat.zero_le _,HRR.out⟩
   case round=>
    clear e1;obtain⟨k,rfl,hS⟩:=hrel;have hle:=hS.le;by_cases hk:k<m.funcs.length
    ·have l0:decide ((k:Int)<(m.funcs.length:Int))=true:=Zt;have l1:decide (k<m.funcs.length)=true:=decide_eq_true hk;obtain⟨af',cf',e1,he⟩:=HF.out;cases e1;obtain⟨g,o,rfl,_,hat⟩:=he (fun q=>by rw[q] at hk; cases hk);obtain⟨q0,q1,v,q2,hv⟩:=Yb9 m.funcs g o k hat hk;obtain⟨asl,cs,rfl,hvs⟩:=hv;have hgl:=World.block_lt_of_cell? w3 _ q0;have p0:=(hS.below.cell (p:=⟨g,o+k*3,none⟩) hgl).trans q0;have p1:=(hS.below.cell (p:=⟨g,o+k*3+1,none⟩) hgl).trans q1;have p2:=(hS.below.cell (p:=⟨g,o+k*3+2,none⟩) hgl).trans q2;obtain⟨hfs,hfl⟩:=HQ.out.1 _ (List.getElem_mem hk);have hEQ:R=orC (orC (J6 m.funcs[k].name) (unC (decide (0<m.funcs[k].sents.len)) 2)) (orC (Ss.form 0 m.funcs[k].sents) (Jw (m.funcs.drop (k+1)))):=by
      rw[hS.eq,List.drop_eq_getElem_cons hk];show orC (orC (J6 m.funcs[k].name) (if m.funcs[k].sents.len=0 then 2 else 0)) _=_;unfold unC;by_cases hz:m.funcs[k].sents.len=0
      ·rw[if_pos hz,Zf]; rfl
      ·rw[if_neg hz,Zt]; rfl
     have HEQ:=Zh hEQ;have HV:=Zh (And.intro hvs (And.intro hfs hfl));have hU:∀(b:Bool) (c:Int) (W:World),Calls Tryz.prog 51 #[.bool b,.int .i64 c] W fun e w'=>e= .returned (.int .i64 (unC b c))/\w'=W:=fun b c W=>Ydu b c W;have HU:=Zh hU;clear hEQ hvs hfs hfl hU q0 q1 q2 hat he hgl;generalize m.funcs[k]=f at p0 p1 p2 HEQ HV;have hsl:=HV.out.2.2;have hA:Below wr.heap.size wr (wr.alloc (.cells #[.string f.name,.bool f.entry,.slice asl f.sents.len cs] 63)).drew:=below_drewN (below_alloc1 wr _) 1;have hA2:(wr.alloc (.cells #[.string f.name,.bool f.entry,.slice asl f.sents.len cs] 63)).drew.heap[wr.heap.size]? =some (.cells #[.string f.name,.bool f.entry,.slice asl f.sents.len cs] 63 (0,0)):=heap_alloc_new wr _;have HN:Hid (∀W,Below (wr.alloc (.cells #[.string f.name,.bool f.entry,.slice asl f.sents.len cs] 63)).drew.heap.size (wr.alloc (.cells #[.string f.name,.bool f.entry,.slice asl f.sents.len cs] 63)).drew W->Calls Tryz.prog 49 #[.string f.name] W fun e w'=>e= .returned (.int .i64 (J6 f.name))/\Below (wr.alloc (.cells #[.string f.name,.bool f.entry,.slice asl f.sents.len cs] 63)).drew.heap.size (wr.alloc (.cells #[.string f.name,.bool f.entry,.slice asl f.sents.len cs] 63)).drew w'/\w'.cell? ⟨wr.heap.size,0,none⟩=some (.string f.name)/\w'.cell? ⟨wr.heap.size,2,none⟩=some (.slice asl f.sents.len cs)):=Zh fun W hW=>
      (Yij f.name W).mono fun e w' ⟨h1,h2⟩=>by
        have hb:=hW.trans (h2.mono hW.size);have n:=(hb.block _ (Zg hA2).1).trans hA2;exact⟨h1,hb,(cell_of_row _ wr.heap.size 0 _ _ (0,0) n).trans rfl,(cell_of_row _ wr.heap.size 2 _ _ (0,0) n).trans rfl⟩
     have HA:=Zh (And.intro hA hA2);clear hA hA2;go_wp2_with fail;go_region_law (first
      |(go_simp; go_at_call 49; refine(HN.out _ (by first | exact Below.refl _ _ | assumption)).mono ?_; rintro e w' ⟨rfl,hbn,x0,x2⟩)
      |(go_simp; go_at_call 51; refine(HU.out _ _ _).mono ?_; rintro e wu ⟨rfl,rfl⟩)
      |(go_simp; go_at_call 50; refine(YnD _ _ _).mono ?_; rintro e w4 ⟨rfl,hbf⟩; have hbz:=Zh (hbn.trans (hbf.mono hbn.size))))
     all_goals
      have hbw:=HA.out.1.trans (hbz.out.mono HA.out.1.size);have n4:=(hbz.out.block _ (Zg HA.out.2).1).trans HA.out.2;have y2:w4.cell? ⟨wr.heap.size,2,none⟩=some (.slice asl f.sents.len cs):=(cell_of_row _ wr.heap.size 2 _ _ (0,0) n4).trans rfl;have hBw:=Zh (hS.below.trans (hbw.mono hS.below.size));clear HN hbn hbf hbz HA x0 x2 p0 p1 p2 n4 hbw HU;generalize orC (J6 f.name) (unC (decide (0<f.sents.len)) 2)=E at HEQ⊢;by_cases h0:E=0
      ·subst h0;have hst:FoS w4 R (Jw (m.funcs.drop (k+1))) f.sents asl w4 0 f.sents:=⟨Below.refl _ _,Nat.zero_add _,fun q=>by
        obtain⟨g2,o2,e2,_,hat⟩:=HV.out.1 q;exact⟨g2,o2,e2,by simpa using Ss.at_keep (T:=fun _=>True) f.sents g2 o2 (.inl trivial) hat (fun k _ hk=>hBw.out.block k hk) (fun _ _ _=>trivial)⟩,HV.out.2.1,HEQ.out⟩
       have HL:Hid (FoF w3 R m.funcs w4 k->True):=Zh fun _=>trivial;clear HEQ HV;go_wp2_with fail;go_loopw [48] (fun i wx=>∃(j:Nat) (rest:Ss),i= .int .i64 j/\FoS w4 R (Jw (m.funcs.drop (k+1))) f.sents asl wx j rest) (fun i _=>f.sents.len - (intOf i).toNat)
       case atStart=>exact⟨0,f.sents,rfl,hst⟩
       case round=>
        clear hst y2;obtain⟨j,rest,rfl,hT⟩:=hrel;cases rest with
        |
         nil=>
         have hj:j=f.sents.len:=by have:=hT.len; simpa[Ss.len] using this
         have m0:decide ((j:Int)<(f.sents.len:Int))=false:=Zf;have HNX:Hid (FoF w3 R m.funcs wr (k+1)):=Zh ⟨hBw.out.trans (hT.below.mono hBw.out.size),hk,hT.eq⟩;clear hT HL;subst hj;go_wp2;go_roundw
         case rel=>exact⟨k+1,by go_num,HNX.out⟩
         case measure=>simp[intOf]; omega
        |
         cons xl xt xr xs xb rest=>
         have hkl:=hT.len;simp only[Ss.len] at hkl;have m0:decide ((j:Int)<(f.sents.len:Int))=true:=Zt;have m1:decide (j<f.sents.len)=true:=Zt;obtain⟨g,o,rfl,⟨v0,q0,hv0⟩,⟨v1,q1,hv1⟩,⟨v2,q2,hv2⟩,⟨v3,q3,hv3⟩,⟨a5,c5,q4,hv4⟩,hrest⟩:=hT.tail (fun q=>by cases q);obtain⟨u0,u1,u2,u3,u4,u5⟩:=hT.fine;have hgl:=World.block_lt_of_cell? w4 _ q0;have p0:=(hT.below.cell (p:=⟨g,o+j*5,none⟩) hgl).trans q0;have p1:=(hT.below.cell (p:=⟨g,o+j*5+1,none⟩) hgl).trans q1;have p2:=(hT.below.cell (p:=⟨g,o+j*5+2,none⟩) hgl).trans q2;have p3:=(hT.below.cell (p:=⟨g,o+j*5+3,none⟩) hgl).trans q3;have p4:=(hT.below.cell (p:=⟨g,o+j*5+4,none⟩) hgl).trans q4;obtain⟨av0,cv0,rfl⟩:=hv0.form;obtain⟨av1,cv1,rfl,hh1⟩:=hv1;obtain⟨av2,cv2,rfl⟩:=hv2.form;obtain⟨av3,cv3,rfl⟩:=hv3.form;have hIH:∀W,Below wr.heap.size wr W->Calls Tryz.prog 52 #[.agg #[.slice av0 xl.len cv0,.slice av1 xt.length cv1,.slice av2 xr.len cv2,.slice av3 xs.len cv3,.slice a5 xb.len c5],.int .i64 0] W (FmQ (Yee 0 xl xt xr xs xb) W):=fun W hW=>by
          have hBW:=hT.below.trans (hW.mono hT.below.size);have h:=Ygo (xb.sz+1) xl xt xr xs xb _ _ _ _ _ 0 W Zo (hv0.below hBW (fun _ _ _=>trivial)) (Y3.keep (T:=fun _=>True) ⟨av1,cv1,rfl,hh1⟩ (fun k _ hk=>hBW.block k hk) (fun _ _ _=>trivial))
           (hv2.below hBW (fun _ _ _=>trivial)) (hv3.below hBW (fun _ _ _=>trivial)) (SsV.keep (T:=fun _=>True) ⟨a5,c5,rfl,hv4⟩ (fun k _ hk=>hBW.block k hk) (fun _ _ _=>trivial)) u0 u1 u2 u3 u4 Zo
          exact h
         have hEQ:R=orC (Yee 0 xl xt xr xs xb) (orC (Ss.form 0 rest) (Jw (m.funcs.drop (k+1)))):=hT.eq.trans (Yb6 _ _ _);have hI:=hIH _ (below_alloc1 wr (.cells #[.slice av0 xl.len cv0,.slice av1 xt.length cv1,.slice av2 xr.len cv2,.slice av3 xs.len cv3,.slice a5 xb.len c5] 39));have HBA:=Zh (below_alloc1 wr (.cells #[.slice av0 xl.len cv0,.slice av1 xt.length cv1,.slice av2 xr.len cv2,.slice av3 xs.len cv3,.slice a5 xb.len c5] 39));have HEQ2:=Zh hEQ;have HI:=Zh hI;generalize Yee 0 xl xt xr xs xb=E2 at HEQ2 HI;have HTT:=Zh (And.intro hrest u5);clear hIH hI hEQ hv0 hv2 hv3 hv4 hh1 q0 q1 q2 q3 q4 u0 u1 u2 u3 u4 u5 hrest hgl HL;go_wp2_with fail;refine HI.out.mono ?_;rintro e w5 ⟨rfl,hb5⟩;have hB5:=HBA.out.trans (hb5.mono HBA.out.size);by_cases he2:E2=0
         ·subst he2;have HNN:Hid (FoS w4 R (Jw (m.funcs.drop (k+1))) f.sents (some ⟨g,o,none⟩) w5 (j+1) rest):=Zh ⟨hT.below.trans (hB5.mono hT.below.size),by omega,fun _=>⟨g,o,rfl,by rw[show o+(j+1)*5=o+j*5+5 by omega]; exact HTT.out.1⟩,HTT.out.2,HEQ2.out⟩;clear HEQ2 HI hb5 hB5 HTT;go_wp2;go_roundw
          case rel=>exact⟨j+1,rest,by go_num,HNN.out⟩
          case measure=>simp[intOf]; omega
         ·have hc2:(E2 != 0)=true:=by simpa using he2
          have HX6:Hid (R=E2):=Zh (by rw[HEQ2.out]; unfold orC; rw[if_neg he2]);have HBB:=Zh (HB.out.trans ((hBw.out.trans ((hT.below.trans (hB5.mono hT.below.size)).mono hBw.out.size)).mono HB.out.size));clear he2 HEQ2 HI hb5 hB5 HTT;go_wp2;go_ret;exact⟨by rw[HX6.out]; rfl,HBB.out⟩
      ·have hc:(E != 0)=true:=by simpa using h0
       have HX4:Hid (R=E):=Zh (by rw[HEQ.out]; unfold orC; rw[if_neg h0]);have HBB:=Zh (HB.out.trans (hBw.out.mono HB.out.size));clear h0 HEQ y2;go_wp2;go_ret;exact⟨by rw[HX4.out]; rfl,HBB.out⟩
    ·have l0:decide ((k:Int)<(m.funcs.length:Int))=false:=Zf;have l1:decide (k<m.funcs.length)=false:=decide_eq_false hk;have HX:Hid (R=0):=Zh (by rw[hS.eq,List.drop_eq_nil_of_le Zo]; rfl);have HBB:=Zh (HB.out.trans (hS.below.mono HB.out.size));clear hS;go_wp2;go_ret;exact⟨by rw[HX.out]; rfl,HBB.out⟩
theorem Ylk {k:Int}{t:ByteArray}{n:Nat}(h:Yq k t n=true):t.size<=1000000:=by
 unfold Yq at h;split at h
 ·have:=of_decide_eq_true h; omega
 ·split at h
  ·unfold Yh at h;simp only[Bool.and_eq_true,decide_eq_true_eq] at h;omega
  ·split at h
   ·cases h
   ·split at h
    ·have:=of_decide_eq_true h; omega
    ·split at h
     ·unfold YY at h;simp only[Bool.and_eq_true,decide_eq_true_eq] at h;omega
     ·split at h
      ·rw[Ye1] at h;simp only[Bool.and_eq_true,decide_eq_true_eq] at h;have h5:=h.1.1.2;rw[YmX] at h5;unfold numT at h5;split at h5
       ·rw[ByteArray.size_extract] at h5; omega
       ·omega
      ·split at h
       ·unfold YbI at h;simp only[Bool.and_eq_true,decide_eq_true_eq] at h;omega
       ·cases h
theorem Ybt (most:Int):∀l:Ts,l.right most=true->l.small
 |.nil,_=>trivial
 |
  .cons k t kids rest,h=>by
  unfold Ts.right at h;simp only[Bool.and_eq_true] at h;exact⟨Ylk h.1.1.2,Ybt most kids h.1.2,Ybt most rest h.2⟩
theorem Ybf {most:Int}{l:Ts}(h:Yy most l=0):l.fine:=by
 obtain⟨h1,_,h3⟩:=Yab.1 h;exact⟨by omega,Ybt most l h3⟩
def Ss.lens (K:Nat):Ss->Prop
 |.nil=>True
 |.cons _ tests _ _ block rest=>tests.length<=K/\(block.lens K/\block.len<=K)/\rest.lens K
theorem Ss.lens_app {K:Nat}:∀a b:Ss,a.lens K->b.lens K->(a.app b).lens K
 |.nil,_,_,h=>h
 |.cons _ _ _ _ _ rest,b,⟨h1,h2,h3⟩,h=>⟨h1,h2,Ss.lens_app rest b h3 h⟩
theorem Ya4:∀l:List (Ts×Ts),J5 l=0->JU l
 |[],_=>trivial
 |
  x::l,h=>by
  obtain⟨h1,h2⟩:=Ye.1 h;obtain⟨h3,h4⟩:=Ye.1 h1;exact⟨Ybf h3,Ybf h4,Ya4 l h2⟩
theorem Ykd:Ts.fine .nil:=⟨by simp[Ts.nodes],trivial⟩
theorem len0:∀{l:Ts},l.len=0->l= .nil
 |.nil,_=>rfl
 |.cons ..,h=>by simp[Ts.len] at h
theorem Yi9 {K:Nat}(hK:K<=1000000000000):∀(s:Ss) (blocks:Nat),s.form blocks=0->s.lens K->s.fine
 |.nil,_,_,_=>trivial
 |
  .cons left tests right subject block rest,blocks,h,⟨l1,⟨l2,l3⟩,l4⟩=>by
  obtain⟨h1,h2⟩:=Ye.1 (show orC (Yee blocks left tests right subject block) (Ss.form blocks rest)=0 from h);obtain⟨h3,h4⟩:=Ye.1 h1;obtain⟨h5,h6⟩:=Ye.1 h4;have hr:=Yi9 hK rest blocks h2 l4;unfold Yec at h6;split at h6
  ·rename_i hb
   obtain⟨h7,h8⟩:=Ye.1 h6;have hs:subject.len=0:=Decidable.byContradiction fun q=>by rw[if_neg q] at h7; cases h7
   have hbn:=(Ss.len_zero block).1 hb;subst hbn;rw[len0 hs];exact⟨Ybf h3,⟨Ya4 tests h5,by omega⟩,Ybf h8,Ykd,⟨trivial,by simp[Ss.len]⟩,hr⟩
  ·obtain⟨h7,h8⟩:=Ye.1 h6;obtain⟨h9,h10⟩:=Ye.1 h8;obtain⟨h11,h12⟩:=Ye.1 h10;have hs:right.len=0:=Decidable.byContradiction fun q=>by rw[if_neg q] at h7; cases h7
   rw[len0 hs];exact⟨Ybf h3,⟨Ya4 tests h5,by omega⟩,Ykd,Ybf h11,⟨Yi9 hK block (blocks+1) h12 l2,by omega⟩,hr⟩
section
variable {L:List Tk}{en:Nat}
mutual
theorem YhV:∀(n blocks i:Nat) (left:Ts) (tests:List (Ts×Ts)) (s:Ss) (j:Nat),tests.length<=i->Y9 L en n blocks i left tests= .ok s j->s.lens L.length
 |0,blocks,i,left,tests,s,j,ht,h=>by unfold Y9 at h; cases h
 |
  n+1,blocks,i,left,tests,s,j,ht,h=>by
  by_cases hc:isN L i 6 YC=true
  ·have hl:=Jf hc;rw[YgX hc] at h;obtain⟨e,j1,he,h⟩:=Rd.bind_inv h;obtain⟨u,k,hm,h⟩:=Rd.bind_inv h;have e1:=J0 he;have e2:=(Y0 hm).2;split at h
   ·split at h
    ·cases h
    ·obtain⟨b,q,hb,h⟩:=Rd.bind_inv h;obtain⟨b1,b2,_⟩:=Yf3 _ _ _ _ _ hb;cases h;exact⟨by omega,⟨b1,b2⟩,trivial⟩
   ·obtain⟨p,q,hp,h⟩:=Rd.bind_inv h;have e5:=J0 hp;exact YhV n _ _ _ _ _ _ (by rw[List.length_append,List.length_singleton]; omega) h
  ·have hc:isN L i 6 YC=false:=by simpa using hc
   rw[Yjb hc] at h;obtain⟨u,k,hm,h⟩:=Rd.bind_inv h;obtain⟨r,q,hr,h⟩:=Rd.bind_inv h;have e3:=Jf (Y0 hm).1;cases h;exact⟨by omega,⟨trivial,by simp[Ss.len]⟩,trivial⟩
theorem Yf3:∀(n blocks i:Nat) (s:Ss) (j:Nat),YA L en n blocks i= .ok s j->s.lens L.length/\s.len<=L.length/\j<=L.length
 |0,blocks,i,s,j,h=>by unfold YA at h; cases h
 |
  n+1,blocks,i,s,j,h=>by
  unfold YA at h;split at h
  ·cases h
  ·exact Yik n blocks i .nil s j (Nat.zero_le _) trivial h
theorem Yik:∀(n blocks i:Nat) (acc s:Ss) (j:Nat),acc.len<=i->acc.lens L.length->JD L en n blocks i acc= .ok s j->s.lens L.length/\s.len<=L.length/\j<=L.length
 |0,blocks,i,acc,s,j,_,_,h=>by unfold JD at h; cases h
 |
  n+1,blocks,i,acc,s,j,ha,hl,h=>by
  unfold JD at h;obtain⟨left,j1,he,h⟩:=Rd.bind_inv h;obtain⟨x,k,hs,h⟩:=Rd.bind_inv h;have e1:=J0 he;have e2:=YeQ _ _ _ _ _ _ _ hs;have e3:=YgY _ _ _ _ _ _ _ hs;have e4:=YhV n _ _ _ _ _ _ (Nat.zero_le _) hs;have hl2:=Ss.lens_app acc x hl e4;have hn:(acc.app x).len=acc.len+1:=by rw[Ss.len_app,e3]
  split at h
  ·rename_i hb
   have e5:=Jf hb;split at h
   ·rename_i hb2
    have e6:=Jf hb2;cases h;exact⟨hl2,by omega,by omega⟩
   ·exact Yik n _ _ _ _ _ Zo hl2 h
  ·split at h
   ·rename_i hb
    have e5:=Jf hb;cases h;exact⟨hl2,by omega,by omega⟩
   ·cases h
end
end
theorem Ynj {L:List Tk}{en i:Nat}{m m':Md}{j:Nat}(hm:∀f∈m.funcs,f.sents.lens L.length/\f.sents.len<=L.length)(h:JY L en i m= .ok m' j):(∀f∈m'.funcs,f.sents.lens L.length/\f.sents.len<=L.length)/\j<=L.length:=by
 unfold JY at h;split at h
 ·obtain⟨l,k,h1,h2⟩:=Rd.bind_inv h;obtain⟨u,k2,h3,h4⟩:=Rd.bind_inv h2;have e3:=Jf (Y0 h3).1;have e2:=(Y0 h3).2;cases h4;exact⟨hm,by omega⟩
 ·obtain⟨nm,k,h1,h2⟩:=Rd.bind_inv h;obtain⟨u,k2,h3,h4⟩:=Rd.bind_inv h2;obtain⟨b,q,h5,h6⟩:=Rd.bind_inv h4;obtain⟨e1,e2,e3⟩:=Yf3 _ _ _ _ _ h5;cases h6;refine⟨fun f hf=>?_,e3⟩;rcases List.mem_append.1 hf with hf | hf
  ·exact hm f hf
  ·rw[List.mem_singleton] at hf;subst hf;exact⟨e1,e2⟩
theorem Ygj {L:List Tk}{en:Nat}:∀(n i:Nat) (m m':Md) (j:Nat),i<=L.length->m.externs.length<=i->m.funcs.length<=i->(∀f∈m.funcs,f.sents.lens L.length/\f.sents.len<=L.length)->Y2 L en n i m= .ok m' j->
 m'.externs.length<=L.length/\m'.funcs.length<=L.length/\∀f∈m'.funcs,f.sents.lens L.length/\f.sents.len<=L.length
 |0,i,m,m',j,_,_,_,_,h=>by unfold Y2 at h; cases h
 |
  n+1,i,m,m',j,hi,h1,h2,h3,h=>by
  unfold Y2 at h;split at h
  ·obtain⟨x,k,hx,h⟩:=Rd.bind_inv h;obtain⟨e1,e2,e3⟩:=Yhe hx;obtain⟨e4,e5⟩:=Ynj h3 hx;exact Ygj n k x m' j e5 Zo Zo e4 h
  ·cases h;exact⟨by omega,by omega,h3⟩
theorem Ygn:∀(l:List Fn),Jw l=0->∀f∈l,f.sents.form 0=0
 |[],_,f,hf=>by simp at hf
 |
  x::l,h,f,hf=>by
  obtain⟨h1,h2⟩:=Ye.1 h;obtain⟨h3,h4⟩:=Ye.1 h2;rcases List.mem_cons.1 hf with rfl | hf
  ·exact h3
  ·exact Ygn l h4 f hf
theorem Yh9 {s:ByteArray}{m:Md}{j:Nat}(hs:s.size<=40000)(h:readB s= .ok m j):m.fine:=by
 have hf:=Yh8 h;rw[Yj7] at h;unfold Yg4 at h;split at h
 ·cases h
 ·rename_i l sp hsc
  obtain⟨h1,h2,h3⟩:=Ygj _ _ _ _ _ (Nat.zero_le _) (Nat.le_refl _) (Nat.le_refl _) Zs h;have hl:=(YdD hsc).1;obtain⟨_,hf2⟩:=Jz.1 hf;exact⟨by omega,by omega,fun f hfm=>⟨Yi9 (K:=l.length) Zo _ 0 (Ygn _ hf2 f hfm) (h3 f hfm).1,by have:=(h3 f hfm).2; omega⟩⟩
theorem row5 {W:World}{g:Nat}{a b c d e:Value}{t:TypeId}(h:W.heap[g]? =some (.cells #[a,b,c,d,e] t (0,0))):W.cell? ⟨g,0,none⟩=some a/\W.cell? ⟨g,1,none⟩=some b/\W.cell? ⟨g,2,none⟩=some c/\W.cell? ⟨g,3,none⟩=some d/\W.cell? ⟨g,4,none⟩=some e:=
 ⟨by simp[World.cell?,h],by simp[World.cell?,h],by simp[World.cell?,h],by simp[World.cell?,h],by simp[World.cell?,h]⟩
theorem bind_ok {α β:Type}{X:Rd α}{f:α->β}{y:β}{k:Nat}(h:(X.bind fun x k=>.ok (f x) k)= .ok y k):∃x,X= .ok x k/\y=f x:=by
 cases X with
 |ok x j=>cases h; exact⟨x,rfl,rfl⟩
 |bad=>cases h
section
variable {L:List Tk}{en:Nat}
end
end Go.Proofs.YteamjdmhdfjopaaGreatDoor
