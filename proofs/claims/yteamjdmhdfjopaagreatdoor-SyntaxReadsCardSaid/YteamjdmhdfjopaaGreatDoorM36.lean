/- A part of the proof; it holds the texts Red Rdm Sz Rea Fom Fin Wrj Wrk Wrl Wrm Wrn Wro Rfa Rfb (names and blanks shortened). -/
import Derived.Test.YteamjdmhdfjopaaGreatDoorM18
import Derived.Test.YteamjdmhdfjopaaGreatDoorM28
import Derived.Test.YteamjdmhdfjopaaGreatDoorM35
import Derived.Test.YteamjdmhdfjopaaGreatDoorM1
import Derived.Test.YteamjdmhdfjopaaGreatDoorM19
import Derived.Test.YteamjdmhdfjopaaGreatDoorM11
import Derived.Test.YteamjdmhdfjopaaGreatDoorM15
import Derived.Test.YteamjdmhdfjopaaGreatDoorM6
import Derived.Test.YteamjdmhdfjopaaGreatDoorM4
namespace Go.Proofs.YteamjdmhdfjopaaGreatDoor
open Go.RowKit
set_option maxRecDepth 100000
set_option maxHeartbeats 8000000
set_option linter.unusedVariables false
set_option linter.unusedSimpArgs false
set_option linter.unnecessarySimpa false
def Ycz {α:Type}(s:ByteArray)(f:List Tk->Rd α):Rd α:=match Yax s with
 |.bad c x=>.bad x c
 |.ok l _=>f l
def YgD {α:Type}(mb:Nat)(w:World)(P:Nat->α->World->Prop)(R:Rd α)(e:Ending)(w':World):Prop:=
 Keep (fun k=>k=mb\/w.heap.size<=k) w w'/\match R with
 |.ok x _=>e= .returned (.tuple #[.int .i64 0,.int .i64 0])/\∃B,w.heap.size<=B/\P B x w'
 |.bad a c=>e= .returned (.tuple #[.int .i64 a,.int .i64 c])
def Ym7 {α:Type}(rb mb:Nat)(w1:World)(P:Nat->α->World->Prop)(R:Rd α)(e:Ending)(w':World):Prop:=
 Keep (fun k=>k=rb\/k=mb\/w1.heap.size<=k) w1 w'/\match R with
 |.ok x _=>e= .returned (.tuple #[])/\P w1.heap.size x w'
 |.bad a c=>e=misR a c
theorem Yoi (l:List Tk):∀(k:Nat) (h:k<l.length),(Jq l)[k*3]? =some (.int .i64 l[k].kind)/\(Jq l)[k*3+1]? =some (.string l[k].text)/\(Jq l)[k*3+2]? =some (.int .i64 l[k].at_):=by
 induction l with
 |nil=>intro k h; simp at h
 |
  cons x l ih=>
  intro k h;cases k with
  |zero=>simp[Jq]
  |
   succ k=>
   obtain⟨a,b,c⟩:=ih k (by simpa using h);simp only[Jq,List.flatMap_cons] at a b c⊢;refine⟨?_,?_,?_⟩
   ·rw[show(k+1)*3=k*3+3 by omega]; simpa using a
   ·rw[show(k+1)*3+1=k*3+1+3 by omega]; simpa using b
   ·rw[show(k+1)*3+2=k*3+2+3 by omega]; simpa using c
theorem Ym8 {B:Nat}{e:TypeId}{v:Value}{l:List Tk}{w:World}(h:w.ownsRow B e 3 v l.length (Jq l)):∃ao cap,v= .slice ao l.length cap/\
 (l≠[]->∃g,ao=some ⟨g,0,none⟩/\g<w.heap.size/\B<=g/\∀(k:Nat) (h:k<l.length),w.cell? ⟨g,0+k*3,none⟩=some (.int .i64 l[k].kind)/\w.cell? ⟨g,0+k*3+1,none⟩=some (.string l[k].text)/\w.cell? ⟨g,0+k*3+2,none⟩=some (.int .i64 l[k].at_)):=by
 rcases h.2 with⟨hv,hz⟩ | ⟨g,cap,cur,hv,hB,hh,hc,_⟩
 ·exact⟨none,0,by rw[hv,hz],fun q=>absurd (List.eq_nil_of_length_eq_zero hz) q⟩
 ·subst hv;refine⟨_,cap,rfl,fun _=>⟨g,rfl,(Zg hh).1,hB,fun k hk=>?_⟩⟩;obtain⟨a,b,c⟩:=Yoi l k hk;simp only[Nat.zero_add];exact⟨(h.cellAt _ Zo).trans a,(h.cellAt _ Zo).trans b,(h.cellAt _ Zo).trans c⟩
theorem YdB {R:Ending->World->Prop}{tmps:Array Value}{g:Nat}{V:World}{x y:Value}(t4:tmps[4]? =some (.pointer (some ⟨g,0,none⟩)))(t5:tmps[5]? =some (.pointer (some ⟨g+1,0,none⟩)))
 (b2:V.heap[g]? =some (.cells #[x] 3 (0,0)))(b3:V.heap[g+1]? =some (.cells #[y] 27 (0,0)))
 (hR:R (.returned (.tuple #[x,y])) V):Leaves Tryz.prog Tryz.f40 tmps R [] .returning V:=by
 have c2:V.cell? ⟨g,0,none⟩=some x:=by simp[World.cell?,b2]
 have c3:V.cell? ⟨g+1,0,none⟩=some y:=by simp[World.cell?,b3]
 refine⟨.tuple #[x,y],?_,hR⟩;simp[results,Tryz.f40,go_sem,t4,t5,c2,c3]
theorem Yf4 {W:World}{g:Nat}{x0 y0:Value}{tx ty:TypeId}(x y:Value)(h0:W.heap[g]? =some (.cells #[x0] tx (0,0)))(h1:W.heap[g+1]? =some (.cells #[y0] ty (0,0))):
 ((W.setCell ⟨g,0,none⟩ x).setCell ⟨g+1,0,none⟩ y).heap[g]? =some (.cells #[x] tx (0,0))/\((W.setCell ⟨g,0,none⟩ x).setCell ⟨g+1,0,none⟩ y).heap[g+1]? =some (.cells #[y] ty (0,0))/\
 Keep (fun k=>k=g\/k=g+1) W ((W.setCell ⟨g,0,none⟩ x).setCell ⟨g+1,0,none⟩ y):=by
 have K1:=Keep.of_setCell W ⟨g,0,none⟩ x;have K2:=Keep.of_setCell (W.setCell ⟨g,0,none⟩ x) ⟨g+1,0,none⟩ y;have n1:=heap_setCell_same W g 0 _ _ x h0;have m1:=(K1.block (g+1) (Zg h1).1 (fun q=>by have:g+1=g:=q; omega)).trans h1;have n2:=heap_setCell_same (W.setCell ⟨g,0,none⟩ x) (g+1) 0 _ _ y m1;have m2:=(K2.block g (Zg n1).1 (fun q=>by have:g=g+1:=q; omega)).trans n1;exact⟨by simpa using m2,by simpa using n2,(K1.mono (T:=fun k=>k=g\/k=g+1) (fun _ _ q=>.inl q)).trans K2 (fun _ _ q=>.inr q)⟩
theorem YiI {α:Type}(s:ByteArray)(m:Int)(F:FuncId)(mb:Nat)(f:List Tk->Rd α)(P:Nat->α->World->Prop)(w:World)(hs:s.size<=40000)
 (hm:w.cell? ⟨2,0,none⟩=some (.int .i64 m))(hE:ErrT w)(hmb:mb<w.heap.size)
 (hcF:∀(args:Array Value) (w:World),(callFunc F args).run Tryz.prog w= .ok (.enter F args) w)
 (hF:∀(l:List Tk) (sp:List (Nat×Nat)) (w1:World) (rb:Nat) (ao:Option Addr) (cap:Nat),Yax s= .ok l sp->Yr w1.heap.size w1 rb ao cap l s.size 0->Keep (fun _=>False) w w1->mb<rb->w.heap.size<=rb->
   Calls Tryz.prog F #[.pointer (some ⟨rb,0,none⟩),.pointer (some ⟨mb,0,none⟩)] w1 (Ym7 rb mb w1 P (f l)))
 (hP:∀(B:Nat) (x:α) (W W':World),w.heap.size<=B->P B x W->Keep (fun k=>w.heap.size<=k/\k<B) W W'->P B x W'):
 Calls Tryz.prog 40 #[.string s,.func (.func F) #[] #[.pointer (some ⟨mb,0,none⟩)]] w (YgD mb w P (Ycz s f)):=by
 have hg:2<w.heap.size:=World.block_lt_of_cell? w _ hm;have hgE:3<w.heap.size:=World.block_lt_of_cell? w _ hE;have kA:Keep (fun _=>False) w ((w.alloc (.cells #[.int .i64 0] 3)).alloc (.cells #[.int .i64 0] 27)):=(Keep.of_alloc w _).trans (Keep.of_alloc (S:=fun _=>False) _ _) (fun _ _ q=>q);have hS:=Ym2 s m ((w.alloc (.cells #[.int .i64 0] 3)).alloc (.cells #[.int .i64 0] 27)) hs ((kA.cell (p:=⟨2,0,none⟩) hg (fun q=>q)).trans hm) ((kA.cell (p:=⟨3,0,none⟩) hgE (fun q=>q)).trans hE);go_enter_defers Tryz.func40,Tryz.ntmps40
 go_wp2_with fail;refine hS.mono ?_;rintro e w1 ⟨hb1,hR⟩;have hz:((w.alloc (.cells #[.int .i64 0] 3)).alloc (.cells #[.int .i64 0] 27)).heap.size=w.heap.size+2:=Zs;have k1:Keep (fun _=>False) ((w.alloc (.cells #[.int .i64 0] 3)).alloc (.cells #[.int .i64 0] 27)) w1:=Keep.of_below hb1;have n0:w1.heap[w.heap.size]? =some (.cells #[.int .i64 0] 3 (0,0)):=(k1.block _ Zo (fun q=>q)).trans (by rw[Below.block (below_alloc1 _ _) _ Zs]; exact heap_alloc_new _ _);have n1:w1.heap[w.heap.size+1]? =some (.cells #[.int .i64 0] 27 (0,0)):=(k1.block _ Zo (fun q=>q)).trans (by have:=heap_alloc_new (w.alloc (.cells #[.int .i64 0] 3)) (.cells #[.int .i64 0] 27); simpa using this);have k01:=kA.trans k1 (fun _ _ q=>q);have hz1:=k1.size;rw[hz] at hz1;clear hS hb1 hm hE hg hgE kA k1 hz;have c0:w1.cell? ⟨w.heap.size,0,none⟩=some (.int .i64 0):=by simp[World.cell?,n0]
 have f0:w1.frozen? ⟨w.heap.size,0,none⟩=false:=by simp[World.frozen?,n0]
 have c1:w1.cell? ⟨w.heap.size+1,0,none⟩=some (.int .i64 0):=by simp[World.cell?,n1]
 have f1:w1.frozen? ⟨w.heap.size+1,0,none⟩=false:=by simp[World.frozen?,n1]
 cases hsc:Yax s with
 |
  bad c x=>
  rw[hsc] at hR;subst hR;have hc:(c != 0)=true:=by simpa using Yg6 hsc
  have hRT:Ycz s f= .bad x c:=by unfold Ycz; rw[hsc]
  clear hF hP hsc;go_wp2;obtain⟨a0,a1,ak⟩:=Yf4 (.int .i64 x) (.int .i64 c) n0 n1;obtain⟨d0,d1,dk⟩:=Yf4 (.int .i64 x) (.int .i64 c) a0 a1;refine YdB rfl rfl d0 d1 ⟨((k01.mono (fun _ _ q=>q.elim)).trans ak (fun k _ q=>.inr Zo)).trans dk (fun k _ q=>.inr Zo),?_⟩;rw[hRT]
 |
  ok l sp=>
  rw[hsc] at hR;obtain⟨vo,rfl,ho,hnil⟩:=hR;have hRT:Ycz s f=f l:=by unfold Ycz; rw[hsc]
  obtain⟨hlen,hsm⟩:=Ycn hsc;obtain⟨ao,cap,rfl,htk⟩:=Ym8 ho;obtain⟨a0,a1,ak⟩:=Yf4 (.int .i64 0) (.int .i64 0) n0 n1;have hzz:((w1.setCell ⟨w.heap.size,0,none⟩ (.int .i64 0)).setCell ⟨w.heap.size+1,0,none⟩ (.int .i64 0)).heap.size=w1.heap.size:=by simp[World.setCell]
  have hrow:=heap_alloc_new ((w1.setCell ⟨w.heap.size,0,none⟩ (.int .i64 0)).setCell ⟨w.heap.size+1,0,none⟩ (.int .i64 0)) (.cells #[.slice ao l.length cap,.int .i64 s.size,.int .i64 0] 157);rw[hzz] at hrow;have hk2:=ak.trans (Keep.of_alloc (S:=fun _=>False) ((w1.setCell ⟨w.heap.size,0,none⟩ (.int .i64 0)).setCell ⟨w.heap.size+1,0,none⟩ (.int .i64 0)) (.cells #[.slice ao l.length cap,.int .i64 s.size,.int .i64 0] 157)) (fun _ _ q=>q.elim);have hz2:(((w1.setCell ⟨w.heap.size,0,none⟩ (.int .i64 0)).setCell ⟨w.heap.size+1,0,none⟩ (.int .i64 0)).alloc (.cells #[.slice ao l.length cap,.int .i64 s.size,.int .i64 0] 157)).heap.size=w1.heap.size+1:=by rw[<-hzz]; simp[World.setCell]
  have hk0:Keep (fun _=>False) w (((w1.setCell ⟨w.heap.size,0,none⟩ (.int .i64 0)).setCell ⟨w.heap.size+1,0,none⟩ (.int .i64 0)).alloc (.cells #[.slice ao l.length cap,.int .i64 s.size,.int .i64 0] 157)):=k01.trans hk2 (fun k hk q=>by omega);have b0:=((Keep.of_alloc (S:=fun _=>False) _ (.cells #[.slice ao l.length cap,.int .i64 s.size,.int .i64 0] 157)).block w.heap.size (Zg a0).1 (fun q=>q)).trans a0;have b1:=((Keep.of_alloc (S:=fun _=>False) _ (.cells #[.slice ao l.length cap,.int .i64 s.size,.int .i64 0] 157)).block (w.heap.size+1) (Zg a1).1 (fun q=>q)).trans a1;have hR:∀W:World,W=(((w1.setCell ⟨w.heap.size,0,none⟩ (.int .i64 0)).setCell ⟨w.heap.size+1,0,none⟩ (.int .i64 0)).alloc (.cells #[.slice ao l.length cap,.int .i64 s.size,.int .i64 0] 157))->
   Yr W.heap.size W w1.heap.size ao cap l s.size 0:=fun W e=>by
   subst e;refine⟨hrow,fun hne=>?_,Nat.zero_le _,by omega,fun x hx=>by have:=hsm x hx; omega,by omega,Nat.le_refl _⟩;obtain⟨g,rfl,hg,hB,hc⟩:=htk hne;have hB2:w.heap.size+2<=g:=by simpa using hB
   have hcell:=fun o=>hk2.cell (p:=⟨g,o,none⟩) hg (fun q=>by rcases q with q | q<;>(have q:g=_:=q; omega));exact⟨g,0,rfl,by omega,by omega,fun k hk=>⟨(hcell _).trans (hc k hk).1,(hcell _).trans (hc k hk).2.1,(hcell _).trans (hc k hk).2.2⟩⟩
  have hFF:=hF l sp _ w1.heap.size ao cap hsc (hR _ rfl) hk0 Zo Zo;have HFF:=Zh hFF;have HP:=Zh hP;have HF2:=Zh (And.intro hk0 (And.intro b0 (And.intro b1 hz2)));have HRT:=Zh hRT;clear hF hP hFF hk0 b0 b1 hz2 hrow hk2 hR htk ho hnil hsm hRT ak a0 a1 hzz hsc;go_wp2_with fail;refine HFF.out.mono ?_;rintro e w3 ⟨hk3,hr3⟩;obtain⟨hk0,b0,b1,hz2⟩:=HF2.out;have hRT:=HRT.out;have d0:=(hk3.block w.heap.size Zo (fun q=>by omega)).trans b0;have d1:=(hk3.block (w.heap.size+1) Zo (fun q=>by omega)).trans b1;have k3:=(hk0.mono (T:=fun k=>k=mb\/w.heap.size<=k) (fun _ _ q=>q.elim)).trans hk3 (fun k _ q=>by omega);cases hfl:f l with
  |
   bad a c=>
   rw[hfl] at hr3 hRT;subst hr3;refine leaves_cons (f:=92) (args:=#[.pointer (some ⟨w.heap.size,0,none⟩),.pointer (some ⟨w.heap.size+1,0,none⟩)]) Zs (by simp[go_sem]) ?_;refine(YjK a c w.heap.size (w.heap.size+1) _ _ _ _ w3 d0 d1 Zo).mono ?_;rintro e u' w4 ⟨rfl,rfl,hk4,m0,m1⟩;show Leaves _ _ _ _ [] .returning w4;refine YdB rfl rfl m0 m1 ⟨k3.trans hk4 (fun k _ q=>by omega),?_⟩;rw[hRT]
  |
   ok x j=>
   rw[hfl] at hr3 hRT;obtain⟨rfl,hP3⟩:=hr3;have c0:w3.cell? ⟨w.heap.size,0,none⟩=some (.int .i64 0):=by simp[World.cell?,d0]
   have f0:w3.frozen? ⟨w.heap.size,0,none⟩=false:=by simp[World.frozen?,d0]
   have c1:w3.cell? ⟨w.heap.size+1,0,none⟩=some (.int .i64 0):=by simp[World.cell?,d1]
   have f1:w3.frozen? ⟨w.heap.size+1,0,none⟩=false:=by simp[World.frozen?,d1]
   obtain⟨a0,a1,ak⟩:=Yf4 (.int .i64 0) (.int .i64 0) d0 d1;have HE:=Zh (And.intro hRT (And.intro hP3 (And.intro k3 (And.intro a0 (And.intro a1 ak)))));have HZ:=Zh hz2;clear hRT hP3 k3 a0 a1 ak hk0 b0 b1 d0 d1 hk3 hz2 HF2 HRT;go_wp2_with fail;obtain⟨hRT,hP3,k3,a0,a1,ak⟩:=HE.out;have hz2:=HZ.out;refine leaves_cons (f:=92) (args:=#[.pointer (some ⟨w.heap.size,0,none⟩),.pointer (some ⟨w.heap.size+1,0,none⟩)]) Zs (by simp[go_sem]) ?_;refine(Yik ⟨w.heap.size,0,none⟩ ⟨w.heap.size+1,0,none⟩ _).mono ?_;rintro e u' w4 ⟨rfl,rfl,rfl⟩;show Leaves _ _ _ _ [] .returning _;refine YdB rfl rfl a0 a1 ⟨k3.trans ak (fun k _ q=>.inr Zo),?_⟩;rw[hRT];exact⟨rfl,_,by omega,HP.out _ x _ _ Zo hP3 (ak.mono (fun k _ q=>⟨by omega,by omega⟩))⟩
theorem Ylx {L:List Tk}{en:Nat}:∀(n i:Nat) (acc l:List ByteArray) (j:Nat),extN L en n i acc= .ok l j->i<j/\l.length+i<=acc.length+j
 |0,i,acc,l,j,h=>by simp[extN] at h
 |
  n+1,i,acc,l,j,h=>by
  unfold extN at h;obtain⟨s,k,h1,h2⟩:=Rd.bind_inv h;have hk:=JD h1;split at h2
  ·have:=Ylx n _ _ _ _ h2;rw[List.length_append,List.length_singleton] at this;omega
  ·cases h2;rw[List.length_append,List.length_singleton];omega
theorem Ygs {L:List Tk}{en i:Nat}{m m':Md}{j:Nat}(h:YaA L en i m= .ok m' j):i<j/\m'.externs.length+i<=m.externs.length+j/\m'.funcs.length+i<=m.funcs.length+j:=by
 unfold YaA at h;split at h
 ·obtain⟨l,k,h1,h2⟩:=Rd.bind_inv h;obtain⟨u,k2,h3,h4⟩:=Rd.bind_inv h2;have e1:=Ylx _ _ _ _ _ h1;have e2:=(YG h3).2;cases h4;exact⟨by omega,by show l.length+i<=_; omega,by show m.funcs.length+i<=_; omega⟩
 ·obtain⟨nm,k,h1,h2⟩:=Rd.bind_inv h;obtain⟨u,k2,h3,h4⟩:=Rd.bind_inv h2;obtain⟨b,q,h5,h6⟩:=Rd.bind_inv h4;have e1:=JD h1;have e2:=(YG h3).2;have e3:=Ygf _ _ _ _ _ h5;have hi:i<=(if isN L i 7 Ya0=true then i+1 else i):=by split<;>omega
  cases h6;exact⟨by omega,by show m.externs.length+i<=_; omega,by show(m.funcs++[_]).length+i<=_; rw[List.length_append,List.length_singleton]; omega⟩
theorem YmO (hV:JO)(B rb mb:Nat)(ao:Option Addr)(cap:Nat)(L:List Tk)(en i:Nat)(m:Md)(ve vf:Value)(w:World)(h0:Yr B w rb ao cap L en i)(hm:ModW B rb mb w ve vf m)(hce:m.externs.length<=i)(hcf:m.funcs.length<=i):
 Calls Tryz.prog 43 #[.pointer (some ⟨rb,0,none⟩),.pointer (some ⟨mb,0,none⟩)] w (Yeg B rb mb ao cap L en w (YaA L en i m)):=by
 cases hc:isN L i 7 YaG with
 |true=>exact YmN B rb mb ao cap L en i m ve vf w h0 hm hc Zo
 |false=>exact YmM hV B rb mb ao cap L en i m ve vf w h0 hm hc (by have:=h0.le; have:=h0.few; omega)
structure RmE (B rb mb:Nat)(ao:Option Addr)(cap:Nat)(L:List Tk)(en:Nat)(R:Rd Md)(w wr:World)(ve vf:Value)(m:Md)(i n:Nat):Prop where
 fuel:L.length - i<n
 eq:Jm L en n i m=R
 rdr:Yr B wr rb ao cap L en i
 mod:ModW B rb mb wr ve vf m
 keep:Keep (fun k=>k=rb\/k=mb\/B<=k) w wr
 ce:m.externs.length<=i
 cf:m.funcs.length<=i
def Yoe (B rb mb:Nat)(w:World)(R:Rd Md)(e:Ending)(w':World):Prop:=Keep (fun k=>k=rb\/k=mb\/B<=k) w w'/\match R with
 |.ok x _=>e= .returned (.tuple #[])/\∃ve vf,ModW B rb mb w' ve vf x
 |.bad a c=>e=misR a c
theorem Ylk (hV:JO)(B rb mb:Nat)(ao:Option Addr)(cap:Nat)(L:List Tk)(en:Nat)(ve vf:Value)(w:World)(h0:Yr B w rb ao cap L en 0)(hm:ModW B rb mb w ve vf ⟨[],[]⟩):
 Calls Tryz.prog 41 #[.pointer (some ⟨rb,0,none⟩),.pointer (some ⟨mb,0,none⟩)] w (Yoe B rb mb w (Jm L en (L.length+1) 0 ⟨[],[]⟩)):=by
 have HV:=Zh hV;have hfew:=h0.few;have hR0:Jm L en (L.length+1) 0 ⟨[],[]⟩=Jm L en (L.length+1) 0 ⟨[],[]⟩:=rfl;have hst0:∀R,Jm L en (L.length+1) 0 ⟨[],[]⟩=R->RmE B rb mb ao cap L en R w w ve vf ⟨[],[]⟩ 0 (L.length+1):=fun R q=>⟨by omega,q,h0,hm,Keep.refl _ _,Nat.le_refl _,Nat.le_refl _⟩;have hst:=hst0 _ rfl;generalize Jm L en (L.length+1) 0 ⟨[],[]⟩=R at hst⊢;clear hV hR0 hst0 h0 hm;go_enter Tryz.func41,Tryz.ntmps41;go_wp2_with fail;go_loopw [] (fun wr=>∃ve vf m i n,RmE B rb mb ao cap L en R w wr ve vf m i n) (fun wr=>L.length - rdI rb wr)
 case atStart=>exact⟨_,_,_,_,_,hst⟩
 case round=>
  clear hst;obtain⟨ve,vf,m,i,n,hS⟩:=hrel;obtain⟨n,rfl⟩:∃q,n=q+1:=⟨n - 1,by have:=hS.fuel; omega⟩;have heq:=hS.eq;have hD:=Ycx B rb ao cap L en i wr hS.rdr;have hle:=hS.rdr.le;unfold Jm at heq;by_cases hi:i<L.length
  ·rw[if_pos hi] at heq;have hne:¬i=L.length:=Zo;rw[decide_eq_false hne] at hD;have HEQ:=Zh heq;clear heq hne;go_wp2_with fail;refine hD.mono ?_;rintro e w1 ⟨rfl,hk1,_⟩;have hI:=YmO HV.out B rb mb ao cap L en i m ve vf w1 (hS.rdr.keep hk1 (fun _ q=>q.elim)) (hS.mod.call (hk1.mono (fun _ _ q=>q.elim))) hS.ce hS.cf;have hinv:∀m' j,YaA L en i m= .ok m' j->i<j/\m'.externs.length+i<=m.externs.length+j/\m'.funcs.length+i<=m.funcs.length+j:=fun m' j q=>Ygs q;have HINV:=Zh hinv;have HK1:Hid (Keep (fun k=>k=rb\/k=mb\/B<=k) w w1):=Zh (hS.keep.trans hk1 (fun _ _ q=>q.elim));clear hD hinv hk1;generalize YaA L en i m=N at hI HEQ HINV;go_wp2_with fail;refine hI.mono ?_;rintro e w2 ⟨hk2,hP⟩;cases N with
   |
    bad a c=>
    subst hP;refine⟨rfl,HK1.out.trans hk2 (fun _ _ q=>q),?_⟩;rw[<-HEQ.out];rfl
   |
    ok m' j=>
    obtain⟨rfl,hr2,ve',vf',hm2⟩:=hP;obtain⟨q1,q2,q3⟩:=HINV.out _ _ rfl;have HN:Hid (RmE B rb mb ao cap L en R w w2 ve' vf' m' j n):=Zh ⟨by have:=hS.fuel; have:=hr2.le; omega,HEQ.out,hr2,hm2,HK1.out.trans hk2 (fun _ _ q=>q),by have:=hS.ce; omega,by have:=hS.cf; omega⟩;have HRR:=Zh hS.rdr;clear hI hk2 hm2 hr2 hS;go_wp2_with fail;go_roundw
    case rel=>exact⟨_,_,_,_,_,HN.out⟩
    case measure=>
     have e1:=HN.out.rdr.rdI;have e2:=HRR.out.rdI;rw[e1,e2];omega
  ·rw[if_neg hi] at heq;have he:i=L.length:=Zo;rw[decide_eq_true he] at hD;have HEQ:=Zh heq;clear heq he hi;go_wp2_with fail;refine hD.mono ?_;rintro e w1 ⟨rfl,hk1,_⟩;have HX:=Zh (And.intro (hS.keep.trans hk1 (fun _ _ q=>q.elim)) (hS.mod.call (hk1.mono (fun _ _ q=>q.elim))));clear hD hk1 hS;go_wp2_with fail;go_end0
   rw[<-HEQ.out];exact⟨HX.out.1,rfl,_,_,HX.out.2⟩
def Rd.coded {α:Type}(r:Rd α):Prop:=∀a c,r= .bad a c->¬c=0
theorem Rd.coded_bind {α β:Type}{r:Rd α}{f:α->Nat->Rd β}(h:r.coded)(k:∀x j,r= .ok x j->(f x j).coded):(r.bind f).coded:=by
 cases r with
 |bad a c=>intro a' c' e; cases e; exact h _ _ rfl
 |ok x j=>exact k x j rfl
theorem Rd.coded_ok {α:Type}(x:α)(j:Nat):(Rd.ok x j).coded:=fun _ _ e=>by cases e
theorem Rd.coded_bad {α:Type}{a:Nat}{c:Int}(h:¬c=0):(Rd.bad a c:Rd α).coded:=fun _ _ e=>by cases e; exact h
theorem Yae {α:Type}{L:List Tk}{en i:Nat}{code:Int}(h:¬code=0):(YQ L en i code:Rd α).coded:=by
 unfold YQ;refine Rd.coded_bad ?_;split
 ·exact h
 ·decide
theorem Yar {L:List Tk}{en i:Nat}{s:ByteArray}:(Yh L en i s).coded:=by
 unfold Yh;split
 ·exact Rd.coded_ok _ _
 ·exact Yae Zd
theorem Yct {L:List Tk}{en i:Nat}:(Yz L en i).coded:=by
 unfold Yz;split
 ·exact Yae Zd
 ·split
  ·exact Rd.coded_ok _ _
  ·exact Yae Zd
theorem Jz {L:List Tk}{en:Nat}{pat:Bool}:∀(n deep i:Nat) (acc:Ts),(Yb L en pat n deep i acc).coded
 |0,deep,i,acc=>by rw[Yb]; exact Rd.coded_ok _ _
 |
  n+1,deep,i,acc=>by
  unfold Yb;split
  ·exact Rd.coded_ok _ _
  ·split
   ·exact Jz n _ _ _
   ·split
    ·exact Jz n _ _ _
    ·split
     ·exact Jz n _ _ _
     ·split
      ·exact Jz n _ _ _
      ·split
       ·split
        ·exact Rd.coded_bad Zd
        ·exact Rd.coded_bind (Jz n _ _ _) fun _ _ _=>Rd.coded_bind Yar fun _ _ _=>Jz n _ _ _
       ·split
        ·split
         ·exact Rd.coded_bad Zd
         ·split
          ·exact Rd.coded_bad Zd
          ·exact Rd.coded_bind Yct fun _ _ _=>Rd.coded_bind (Jz n _ _ _) fun _ _ _=>Rd.coded_bind Yar fun _ _ _=>Jz n _ _ _
        ·exact Rd.coded_ok _ _
theorem Ybo {L:List Tk}{en:Nat}{pat:Bool}{i:Nat}:(YK L en pat i).coded:=by
 unfold YK;refine Rd.coded_bind (Jz _ _ _ _) fun l j _=>?_;split
 ·exact Yae Zd
 ·exact Rd.coded_ok _ _
section
variable {L:List Tk}{en:Nat}
mutual
theorem Ydx:∀(n blocks i:Nat) (left:Ts) (tests:List (Ts×Ts)),L.length - i+1<=n->(JV L en n blocks i left tests).coded
 |0,blocks,i,left,tests,hf=>by omega
 |
  n+1,blocks,i,left,tests,hf=>by
  by_cases hc:isN L i 6 JQ=true
  ·have hl:=YaC hc;rw[Yc2 hc];refine Rd.coded_bind Ybo fun e j he=>Rd.coded_bind Yar fun u k hm=>?_;have e1:=JM he;have e2:=(YG hm).2;have e3:=YaC (YG hm).1;split
   ·rename_i hb
    have e4:=YaC hb;split
    ·exact Yae Zd
    ·exact Rd.coded_bind (Yep n _ _ Zo) fun _ _ _=>Rd.coded_ok _ _
   ·refine Rd.coded_bind Ybo fun p m hp=>?_;have e5:=JM hp;exact Ydx n _ _ _ _ Zo
  ·have hc:isN L i 6 JQ=false:=by simpa using hc
   rw[Ygg hc];exact Rd.coded_bind Yar fun _ _ _=>Rd.coded_bind Ybo fun _ _ _=>Rd.coded_ok _ _
theorem Yep:∀(n blocks i:Nat),L.length - i+3<=n->(YZ L en n blocks i).coded
 |0,blocks,i,hf=>by omega
 |
  n+1,blocks,i,hf=>by
  unfold YZ;split
  ·exact Yae Zd
  ·exact YfI n _ _ _ Zo
theorem YfI:∀(n blocks i:Nat) (acc:Ss),L.length - i+2<=n->(YaF L en n blocks i acc).coded
 |0,blocks,i,acc,hf=>by omega
 |
  n+1,blocks,i,acc,hf=>by
  unfold YaF;refine Rd.coded_bind Ybo fun left j hl=>?_;have e1:=JM hl;refine Rd.coded_bind (Ydx n _ _ _ _ Zo) fun s k hs=>?_;have e2:=Ydw _ _ _ _ _ _ _ hs;split
  ·rename_i hb
   have e3:=YaC hb;split
   ·exact Rd.coded_ok _ _
   ·exact YfI n _ _ _ Zo
  ·split
   ·exact Rd.coded_ok _ _
   ·exact Yae Zd
end
end
theorem YhB {L:List Tk}{en:Nat}:∀(n i:Nat) (acc:List ByteArray),L.length - i+1<=n->(extN L en n i acc).coded
 |0,i,acc,h=>by omega
 |
  n+1,i,acc,h=>by
  unfold extN;refine Rd.coded_bind Yct fun s k hs=>?_;have e:=JD hs;split
  ·rename_i hc
   have e3:=YaC hc;exact YhB n _ _ Zo
  ·exact Rd.coded_ok _ _
theorem YjA {L:List Tk}{en i:Nat}{m:Md}:(YaA L en i m).coded:=by
 unfold YaA;split
 ·exact Rd.coded_bind (YhB _ _ _ Zo) fun _ _ _=>Rd.coded_bind Yar fun _ _ _=>Rd.coded_ok _ _
 ·refine Rd.coded_bind Yct fun _ _ _=>Rd.coded_bind Yar fun _ k hk=>Rd.coded_bind (Yep _ _ _ Zo) fun _ _ _=>Rd.coded_ok _ _
theorem YeR {L:List Tk}{en:Nat}:∀(n i:Nat) (m:Md),L.length - i<n->(Jm L en n i m).coded
 |0,i,m,h=>by omega
 |
  n+1,i,m,h=>by
  unfold Jm;split
  ·refine Rd.coded_bind YjA fun m' j hj=>?_;have:=(Ygs hj).1;exact YeR n _ _ Zo
  ·exact Rd.coded_ok _ _
theorem Ygm (s:ByteArray):readB s=Ycz s fun l=>Jm l s.size (l.length+1) 0 ⟨[],[]⟩:=rfl
theorem YcR {α:Type}{s:ByteArray}{f:List Tk->Rd α}(h:∀l,(f l).coded):(Ycz s f).coded:=by
 unfold Ycz;split
 ·rename_i hs
  exact Rd.coded_bad (Yg6 hs)
 ·exact h _
theorem Ycq (s:ByteArray):(readB s).coded:=YcR fun l=>YeR _ _ _ Zo
def Ymn (s:ByteArray)(l:List Tk):Rd Ss:=(YK l s.size true 0).bind fun left j=>(JV l s.size (l.length+4) 0 j left []).bind fun x k=>if k<l.length then YQ l s.size k 50 else .ok x k
theorem YeE (s:ByteArray):YbS s=Ycz s (Ymn s):=rfl
theorem YhZ (s:ByteArray):(YbS s).coded:=YcR fun l=>Rd.coded_bind Ybo fun left j hj=>Rd.coded_bind (Ydx _ _ _ _ _ Zo) fun x k hk=>by
 split
 ·exact Yae Zd
 ·exact Rd.coded_ok _ _
def MdV (w:World)(S:Nat->Prop)(ve vf:Value)(m:Md):Prop:=Yaa w S ve m.externs/\Yab w S vf m.funcs
theorem MdV.keep {w w':World}{S T:Nat->Prop}{ve vf:Value}{m:Md}(h:MdV w S ve vf m)(hk:∀k,S k->k<w.heap.size->w'.heap[k]? =w.heap[k]?)(hT:∀k,S k->k<w.heap.size->T k):MdV w' T ve vf m:=⟨h.1.keep hk hT,h.2.keep hk hT⟩
theorem ModW.mdV {B rb mb:Nat}{w:World}{ve vf:Value}{m:Md}(h:ModW B rb mb w ve vf m):MdV w (fun k=>B<=k) ve vf m:=by
 refine⟨h.ext.stV,?_⟩;obtain⟨xs,ho,hf⟩:=h.fns;exact Yab.of_owns ho hf (fun k q=>q.1.1) (fun k _ q=>q)
def YlX (w:World)(R:Rd Md)(e:Ending)(w':World):Prop:=Below w.heap.size w w'/\match R with
 |.ok m _=>∃ve vf,e= .returned (.tuple #[.agg #[ve,vf],.int .i64 0,.int .i64 0])/\MdV w' (fun k=>w.heap.size<=k) ve vf m
 |.bad a c=>e= .returned (.tuple #[.agg #[.slice none 0 0,.slice none 0 0],.int .i64 a,.int .i64 c])
theorem Yd7 {W:World}{g:Nat}{x0 y0:Value}{t:TypeId}(x y:Value)(h:W.heap[g]? =some (.cells #[x0,y0] t (0,0))):
 ((W.setCell ⟨g,0,none⟩ x).setCell ⟨g,1,none⟩ y).heap[g]? =some (.cells #[x,y] t (0,0))/\Keep (fun k=>k=g) W ((W.setCell ⟨g,0,none⟩ x).setCell ⟨g,1,none⟩ y):=by
 have K1:=Keep.of_setCell W ⟨g,0,none⟩ x;have K2:=Keep.of_setCell (W.setCell ⟨g,0,none⟩ x) ⟨g,1,none⟩ y;have n1:=heap_setCell_same W g 0 _ _ x h;have n2:=heap_setCell_same (W.setCell ⟨g,0,none⟩ x) g 1 _ _ y n1;exact⟨by simpa using n2,K1.trans K2 (fun _ _ q=>q)⟩
theorem YdT {tmps:Array Value}{g:Nat}{V:World}{x y u v:Value}(t2:tmps[2]? =some (.pointer (some ⟨g,0,none⟩)))(t3:tmps[3]? =some u)(t4:tmps[4]? =some v)
 (h:V.heap[g]? =some (.cells #[x,y] 26 (0,0))):(results Tryz.f11 tmps).run Tryz.prog V= .ok (.tuple #[.agg #[x,y],u,v]) V:=by
 have c0:V.cell? ⟨g,0,none⟩=some x:=by simp[World.cell?,h]
 have c1:V.cell? ⟨g,1,none⟩=some y:=by simp[World.cell?,h]
 simp[results,Tryz.f11,go_sem,t2,t3,t4,c0,c1]
theorem Yef (hV:JO)(s:ByteArray)(m:Int)(w:World)(hs:s.size<=40000)(hm:w.cell? ⟨2,0,none⟩=some (.int .i64 m))(hE:ErrT w):
 Calls Tryz.prog 11 #[.string s] w (YlX w (readB s)):=by
 have hg:2<w.heap.size:=World.block_lt_of_cell? w _ hm;have hgE:3<w.heap.size:=World.block_lt_of_cell? w _ hE;have kA:Keep (fun _=>False) w ((w.alloc (.cells #[.slice none 0 0,.slice none 0 0] 26)).alloc (.cells #[.slice none 0 0,.slice none 0 0] 26)):=(Keep.of_alloc w _).trans (Keep.of_alloc (S:=fun _=>False) _ _) (fun _ _ q=>q);have hz:((w.alloc (.cells #[.slice none 0 0,.slice none 0 0] 26)).alloc (.cells #[.slice none 0 0,.slice none 0 0] 26)).heap.size=w.heap.size+2:=Zs;have n0:((w.alloc (.cells #[.slice none 0 0,.slice none 0 0] 26)).alloc (.cells #[.slice none 0 0,.slice none 0 0] 26)).heap[w.heap.size]? =some (.cells #[.slice none 0 0,.slice none 0 0] 26 (0,0)):=by
  rw[Below.block (below_alloc1 _ _) _ Zs]; exact heap_alloc_new _ _
 have n1:((w.alloc (.cells #[.slice none 0 0,.slice none 0 0] 26)).alloc (.cells #[.slice none 0 0,.slice none 0 0] 26)).heap[w.heap.size+1]? =some (.cells #[.slice none 0 0,.slice none 0 0] 26 (0,0)):=by
  have:=heap_alloc_new (w.alloc (.cells #[.slice none 0 0,.slice none 0 0] 26)) (.cells #[.slice none 0 0,.slice none 0 0] 26); simpa using this
 have hX:∀W:World,W=((w.alloc (.cells #[.slice none 0 0,.slice none 0 0] 26)).alloc (.cells #[.slice none 0 0,.slice none 0 0] 26))->
  Calls Tryz.prog 40 #[.string s,.func (.func 41) #[] #[.pointer (some ⟨w.heap.size+1,0,none⟩)]] W (YgD (w.heap.size+1) W (fun B x W'=>∃rb ve vf,ModW B rb (w.heap.size+1) W' ve vf x) (readB s)):=fun W hW=>by
  rw[<-hW] at kA hz n0 n1;rw[Ygm];refine YiI s m 41 (w.heap.size+1) _ (fun B x W'=>∃rb ve vf,ModW B rb (w.heap.size+1) W' ve vf x) W hs ((kA.cell (p:=⟨2,0,none⟩) hg (fun q=>q)).trans hm) ((kA.cell (p:=⟨3,0,none⟩) hgE (fun q=>q)).trans hE) Zo ?_ ?_ ?_
  ·intro args w; simp[go_sem]
  ·intro l sp w1 rb ao cap hsc hr hk hmr hrb;refine(Ylk hV w1.heap.size rb (w.heap.size+1) ao cap l s.size (.slice none 0 0) (.slice none 0 0) w1 hr ⟨(hk.block _ (Zg n1).1 (fun q=>q)).trans n1,by have:=hk.size; omega,by omega,hr.low,OwnR.nil (fun _=>rfl),OwnR.nil (fun _=>rfl)⟩).mono ?_;rintro e w2 ⟨hk2,hR⟩;refine⟨hk2,?_⟩;revert hR;cases Jm l s.size (l.length+1) 0 ⟨[],[]⟩ with
   |bad a c=>exact id
   |ok x j=>exact fun⟨h1,ve,vf,h2⟩=>⟨h1,rb,ve,vf,h2⟩
  ·rintro B x W1 W2 hB ⟨rb,ve,vf,hM⟩ hk;exact⟨rb,ve,vf,(hk.block _ hM.lt (fun q=>by omega)).trans hM.row,hM.low,hM.apart,hM.rlow,hM.ext.keep (Jr _) hk (fun k q=>q.2),hM.fns.keep (Jc _ _) hk (fun k q=>q.2)⟩
 have hRd:=hX _ rfl;have hcod:=Ycq s;generalize readB s=R at hRd hcod⊢;have HK:=Zh (And.intro kA (And.intro n0 hz));clear hX hm hE hg hgE kA n0 n1 hz;go_enter Tryz.func11,Tryz.ntmps11;go_wp2_with fail;refine hRd.mono ?_;rintro e w3 ⟨hk3,hP⟩;obtain⟨kA,n0,hz⟩:=HK.out;have n3:=(hk3.block w.heap.size Zo (fun q=>by omega)).trans n0;have hb3:Below w.heap.size w w3:=(kA.trans hk3 (fun k hk q=>by omega)).below (Nat.le_refl _) (fun _ _ q=>q);have c0:w3.cell? ⟨w.heap.size,0,none⟩=some (.slice none 0 0):=by simp[World.cell?,n3]
 have c1:w3.cell? ⟨w.heap.size,1,none⟩=some (.slice none 0 0):=by simp[World.cell?,n3]
 have f0:w3.frozen? ⟨w.heap.size,0,none⟩=false:=by simp[World.frozen?,n3]
 have f1:w3.frozen? ⟨w.heap.size,1,none⟩=false:=by simp[World.frozen?,n3]
 cases R with
 |
  bad a c=>
  subst hP;have hc:(c != 0)=true:=by simpa using hcod a c rfl
  have HX:=Zh (And.intro hb3 n3);clear hRd hk3 hb3 HK hcod kA n0 n3;go_wp2;obtain⟨hb3,n3⟩:=HX.out;obtain⟨p0,pk⟩:=Yd7 (.slice none 0 0) (.slice none 0 0) n3;exact bodyPost_ret (YdT rfl rfl rfl p0) rfl ⟨hb3.trans (pk.below hb3.size (fun i hi q=>by omega)),rfl⟩
 |
  ok x j=>
  obtain⟨rfl,B,hB,rb,ve,vf,hM⟩:=hP;obtain⟨aoe,cape,rfl⟩:=hM.ext.form;obtain⟨aof,capf,rfl⟩:=hM.fns.form;have HX:=Zh (And.intro hb3 (And.intro n3 (hM.mdV)));have d0:=hM.c0;have d1:=hM.c1;clear hRd hk3 hb3 HK hcod kA n0 n3 hM;go_wp2;obtain⟨hb3,n3,hmd⟩:=HX.out;obtain⟨p0,pk⟩:=Yd7 (.slice aoe x.externs.length cape) (.slice aof x.funcs.length capf) n3;exact bodyPost_ret (YdT rfl rfl rfl p0) rfl ⟨hb3.trans (pk.below hb3.size (fun i hi q=>by omega)),_,_,rfl,hmd.keep (fun k q hk=>pk.block k hk Zo) (fun k q _=>by omega)⟩
def Md.fine (m:Md):Prop:=m.externs.length<=1000000000000/\m.funcs.length<=1000000000000/\∀f∈m.funcs,f.sents.fine/\f.sents.len<=1000000000000
theorem strs_get {w:World}:∀(l:List ByteArray) (b off k:Nat),Yeo w l b off->(h:k<l.length)->w.cell? ⟨b,off+k,none⟩=some (.string l[k])
 |[],_,_,_,_,h=>by simp at h
 |x::l,b,off,0,⟨h0,_⟩,_=>h0
 |
  x::l,b,off,k+1,⟨_,h2⟩,h=>by
  have:=strs_get l b (off+1) k h2 (by simpa using h);rw[show off+(k+1)=off+1+k by omega];exact this
theorem Yb9 {w:World}{S:Nat->Prop}:∀(l:List Fn) (b off k:Nat),funcsAt w S l b off->(h:k<l.length)->w.cell? ⟨b,off+k*3,none⟩=some (.string l[k].name)/\w.cell? ⟨b,off+k*3+1,none⟩=some (.bool l[k].entry)/\∃v,w.cell? ⟨b,off+k*3+2,none⟩=some v/\SsV w S v l[k].sents
 |[],_,_,_,_,h=>by simp at h
 |x::l,b,off,0,⟨h0,h1,h2,_⟩,_=>⟨by simpa using h0,by simpa using h1,by simpa using h2⟩
 |
  x::l,b,off,k+1,⟨_,_,_,h2⟩,h=>by
  have:=Yb9 l b (off+3) k h2 (by simpa using h);rw[show off+(k+1)*3=off+3+k*3 by omega];exact this
structure FoS (W0:World)(R Y:Int)(bl:Ss)(ao:Option Addr)(wr:World)(k:Nat)(rest:Ss):Prop where
 below:Below W0.heap.size W0 wr
 len:k+rest.len=bl.len
 tail:rest≠.nil->∃g o,ao=some ⟨g,o,none⟩/\rest.at W0 (fun _=>True) g (o+k*5)
 fine:rest.fine
 eq:R=orC (Ss.form 0 rest) Y
structure FoF (W0:World)(R:Int)(l:List Fn)(wr:World)(k:Nat):Prop where
 below:Below W0.heap.size W0 wr
 le:k<=l.length
 eq:R=Yam (l.drop k)
structure FoE (W0:World)(R X:Int)(l:List ByteArray)(wr:World)(k:Nat):Prop where
 below:Below W0.heap.size W0 wr
 le:k<=l.length
 eq:R=orC (Yai (l.drop k)) X
theorem Yi7 (m:Md)(ve vf:Value)(w:World)(hm:MdV w (fun _=>True) ve vf m)(hfine:m.fine):
 Calls Tryz.prog 14 #[.agg #[ve,vf]] w (FmQ (Ybm m) w):=by
 obtain⟨ae,ce,rfl,he⟩:=hm.1;obtain⟨af,cf,rfl,hf⟩:=hm.2;obtain⟨le,lf,hff⟩:=hfine;have hbx:=below_alloc1 w (.cells #[.slice ae m.externs.length ce,.slice af m.funcs.length cf] 26);have nx:=heap_alloc_new w (.cells #[.slice ae m.externs.length ce,.slice af m.funcs.length cf] 26);have hE:Yaa (w.alloc (.cells #[.slice ae m.externs.length ce,.slice af m.funcs.length cf] 26)) (fun _=>True) (.slice ae m.externs.length ce) m.externs:=Yaa.keep (S:=fun _=>True) ⟨ae,ce,rfl,he⟩ (fun k _ hk=>hbx.block k hk) (fun _ _ _=>trivial);have hF:Yab (w.alloc (.cells #[.slice ae m.externs.length ce,.slice af m.funcs.length cf] 26)) (fun _=>True) (.slice af m.funcs.length cf) m.funcs:=Yab.keep (S:=fun _=>True) ⟨af,cf,rfl,hf⟩ (fun k _ hk=>hbx.block k hk) (fun _ _ _=>trivial);have hEQ:Ybm m=orC (Yai m.externs) (Yam m.funcs):=rfl;generalize Ybm m=R at hEQ⊢;have HQ:=Zh (And.intro hff hEQ);clear hff hEQ;have c0:(w.alloc (.cells #[.slice ae m.externs.length ce,.slice af m.funcs.length cf] 26)).cell? ⟨w.heap.size,0,none⟩=some (.slice ae m.externs.length ce):=(cell_of_row _ w.heap.size 0 _ _ (0,0) nx).trans rfl;have c1:(w.alloc (.cells #[.slice ae m.externs.length ce,.slice af m.funcs.length cf] 26)).cell? ⟨w.heap.size,1,none⟩=some (.slice af m.funcs.length cf):=(cell_of_row _ w.heap.size 1 _ _ (0,0) nx).trans rfl;go_enter Tryz.func14,Tryz.ntmps14;go_wp2_with fail;have HP:=Zh (And.intro hbx (And.intro hE (And.intro hF (And.intro c0 c1))));clear hE hF hm he hf;generalize w.alloc (.cells #[.slice ae m.externs.length ce,.slice af m.funcs.length cf] 26)=w1 at HP c0 c1 hbx nx⊢;have HNW:=Zh (And.intro hbx nx);clear hbx nx;go_loopw [15] (fun i wr=>∃k:Nat,i= .int .i64 k/\FoE w1 R (Yam m.funcs) m.externs wr k) (fun i _=>m.externs.length - (intOf i).toNat)
 case atStart=>exact⟨0,rfl,Below.refl _ _,Nat.zero_le _,HQ.out.2⟩
 case round=>
  obtain⟨k,rfl,hS⟩:=hrel;clear c0 c1;have hle:=hS.le;by_cases hk:k<m.externs.length
  ·have l0:decide ((k:Int)<(m.externs.length:Int))=true:=Zt;have l1:decide (k<m.externs.length)=true:=decide_eq_true hk;obtain⟨hbx,⟨ae',ce',e1,he⟩,_⟩:=HP.out;cases e1;obtain⟨g,o,rfl,_,hat,_⟩:=he (fun q=>by rw[q] at hk; cases hk);have q0:=strs_get m.externs g o k hat hk;have p0:=(hS.below.cell (p:=⟨g,o+k,none⟩) (World.block_lt_of_cell? w1 _ q0)).trans q0;have hN:=Yhp m.externs[k] wr;have hEQ:R=orC (YaH m.externs[k]) (orC (Yai (m.externs.drop (k+1))) (Yam m.funcs)):=by
    rw[hS.eq,List.drop_eq_getElem_cons hk];exact Yb6 _ _ _
   have HEQ:=Zh hEQ;generalize m.externs[k]=s at p0 hN HEQ;generalize YaH s=E at hN HEQ;clear hEQ q0 hat he hbx;go_wp2_with fail;refine hN.mono ?_;rintro e w2 ⟨rfl,hb2⟩;clear hN;by_cases h0:E=0
   ·subst h0;have HN:Hid (FoE w1 R (Yam m.funcs) m.externs w2 (k+1)):=Zh ⟨hS.below.trans (hb2.mono hS.below.size),hk,HEQ.out⟩;clear HEQ hb2;go_wp2;go_roundw
    case rel=>exact⟨k+1,by go_num,HN.out⟩
    case measure=>simp[intOf]; omega
   ·have hc:(E != 0)=true:=by simpa using h0
    have HX:Hid (R=E):=Zh (by rw[HEQ.out]; unfold orC; rw[if_neg h0]);have HB:=Zh (HP.out.1.trans ((hS.below.trans (hb2.mono hS.below.size)).mono HP.out.1.size));clear h0 HEQ hb2;go_wp2;go_ret;exact⟨by rw[HX.out]; rfl,HB.out⟩
  ·have l0:decide ((k:Int)<(m.externs.length:Int))=false:=Zf;have l1:decide (k<m.externs.length)=false:=decide_eq_false hk;have hR:R=Yam m.funcs:=by rw[hS.eq,List.drop_eq_nil_of_le Zo]; rfl
   obtain⟨hbx,_,hF,d0,d1⟩:=HP.out;have hlt:=(Zg HNW.out.2).1;have e1:=(hS.below.cell (p:=⟨w.heap.size,1,none⟩) hlt).trans d1;have HF:=Zh (Yab.keep (T:=fun _=>True) hF (fun k _ hk=>hS.below.block k hk) (fun _ _ _=>trivial));have HB:=Zh (hbx.trans (hS.below.mono hbx.size));have HRR:=Zh hR;clear hR hbx hF d0 d1 hS HP HNW;go_wp2_with fail;obtain⟨w3,hw3⟩:∃w3,w3=wr:=⟨_,rfl⟩;rw[<-hw3] at HF HB e1⊢;clear hw3;go_loopw [28] (fun i wr=>∃k:Nat,i= .int .i64 k/\FoF w3 R m.funcs wr k) (fun i _=>m.funcs.length - (intOf i).toNat)
   case atStart=>exact⟨0,rfl,Below.refl _ _,Nat.zero_le _,HRR.out⟩
   case round=>
    clear e1;obtain⟨k,rfl,hS⟩:=hrel;have hle:=hS.le;by_cases hk:k<m.funcs.length
    ·have l0:decide ((k:Int)<(m.funcs.length:Int))=true:=Zt;have l1:decide (k<m.funcs.length)=true:=decide_eq_true hk;obtain⟨af',cf',e1,he⟩:=HF.out;cases e1;obtain⟨g,o,rfl,_,hat⟩:=he (fun q=>by rw[q] at hk; cases hk);obtain⟨q0,q1,v,q2,hv⟩:=Yb9 m.funcs g o k hat hk;obtain⟨asl,cs,rfl,hvs⟩:=hv;have hgl:=World.block_lt_of_cell? w3 _ q0;have p0:=(hS.below.cell (p:=⟨g,o+k*3,none⟩) hgl).trans q0;have p1:=(hS.below.cell (p:=⟨g,o+k*3+1,none⟩) hgl).trans q1;have p2:=(hS.below.cell (p:=⟨g,o+k*3+2,none⟩) hgl).trans q2;obtain⟨hfs,hfl⟩:=HQ.out.1 _ (List.getElem_mem hk);have hEQ:R=orC (orC (YaH m.funcs[k].name) (unC (decide (0<m.funcs[k].sents.len)) 2)) (orC (Ss.form 0 m.funcs[k].sents) (Yam (m.funcs.drop (k+1)))):=by
      rw[hS.eq,List.drop_eq_getElem_cons hk];show orC (orC (YaH m.funcs[k].name) (if m.funcs[k].sents.len=0 then 2 else 0)) _=_;unfold unC;by_cases hz:m.funcs[k].sents.len=0
      ·rw[if_pos hz,Zf]; rfl
      ·rw[if_neg hz,Zt]; rfl
     have HEQ:=Zh hEQ;have HV:=Zh (And.intro hvs (And.intro hfs hfl));have hU:∀(b:Bool) (c:Int) (W:World),Calls Tryz.prog 51 #[.bool b,.int .i64 c] W fun e w'=>e= .returned (.int .i64 (unC b c))/\w'=W:=fun b c W=>Ydl b c W;have HU:=Zh hU;clear hEQ hvs hfs hfl hU q0 q1 q2 hat he hgl;generalize m.funcs[k]=f at p0 p1 p2 HEQ HV;have hsl:=HV.out.2.2;have hA:Below wr.heap.size wr (wr.alloc (.cells #[.string f.name,.bool f.entry,.slice asl f.sents.len cs] 63)).drew:=below_drewN (below_alloc1 wr _) 1;have hA2:(wr.alloc (.cells #[.string f.name,.bool f.entry,.slice asl f.sents.len cs] 63)).drew.heap[wr.heap.size]? =some (.cells #[.string f.name,.bool f.entry,.slice asl f.sents.len cs] 63 (0,0)):=heap_alloc_new wr _;have HN:Hid (∀W,Below (wr.alloc (.cells #[.string f.name,.bool f.entry,.slice asl f.sents.len cs] 63)).drew.heap.size (wr.alloc (.cells #[.string f.name,.bool f.entry,.slice asl f.sents.len cs] 63)).drew W->Calls Tryz.prog 49 #[.string f.name] W fun e w'=>e= .returned (.int .i64 (YaH f.name))/\Below (wr.alloc (.cells #[.string f.name,.bool f.entry,.slice asl f.sents.len cs] 63)).drew.heap.size (wr.alloc (.cells #[.string f.name,.bool f.entry,.slice asl f.sents.len cs] 63)).drew w'/\w'.cell? ⟨wr.heap.size,0,none⟩=some (.string f.name)/\w'.cell? ⟨wr.heap.size,2,none⟩=some (.slice asl f.sents.len cs)):=Zh fun W hW=>
      (Yhp f.name W).mono fun e w' ⟨h1,h2⟩=>by
        have hb:=hW.trans (h2.mono hW.size);have n:=(hb.block _ (Zg hA2).1).trans hA2;exact⟨h1,hb,(cell_of_row _ wr.heap.size 0 _ _ (0,0) n).trans rfl,(cell_of_row _ wr.heap.size 2 _ _ (0,0) n).trans rfl⟩
     have HA:=Zh (And.intro hA hA2);clear hA hA2;go_wp2_with fail;go_region_law (first
      |(go_simp; go_at_call 49; refine(HN.out _ (by first | exact Below.refl _ _ | assumption)).mono ?_; rintro e w' ⟨rfl,hbn,x0,x2⟩)
      |(go_simp; go_at_call 51; refine(HU.out _ _ _).mono ?_; rintro e wu ⟨rfl,rfl⟩)
      |(go_simp; go_at_call 50; refine(Ylw _ _ _).mono ?_; rintro e w4 ⟨rfl,hbf⟩; have hbz:=Zh (hbn.trans (hbf.mono hbn.size))))
     all_goals
      have hbw:=HA.out.1.trans (hbz.out.mono HA.out.1.size);have n4:=(hbz.out.block _ (Zg HA.out.2).1).trans HA.out.2;have y2:w4.cell? ⟨wr.heap.size,2,none⟩=some (.slice asl f.sents.len cs):=(cell_of_row _ wr.heap.size 2 _ _ (0,0) n4).trans rfl;have hBw:=Zh (hS.below.trans (hbw.mono hS.below.size));clear HN hbn hbf hbz HA x0 x2 p0 p1 p2 n4 hbw HU;generalize orC (YaH f.name) (unC (decide (0<f.sents.len)) 2)=E at HEQ⊢;by_cases h0:E=0
      ·subst h0;have hst:FoS w4 R (Yam (m.funcs.drop (k+1))) f.sents asl w4 0 f.sents:=⟨Below.refl _ _,Nat.zero_add _,fun q=>by
        obtain⟨g2,o2,e2,_,hat⟩:=HV.out.1 q;exact⟨g2,o2,e2,by simpa using Ss.at_keep (T:=fun _=>True) f.sents g2 o2 (.inl trivial) hat (fun k _ hk=>hBw.out.block k hk) (fun _ _ _=>trivial)⟩,HV.out.2.1,HEQ.out⟩
       have HL:Hid (FoF w3 R m.funcs w4 k->True):=Zh fun _=>trivial;clear HEQ HV;go_wp2_with fail;go_loopw [48] (fun i wx=>∃(j:Nat) (rest:Ss),i= .int .i64 j/\FoS w4 R (Yam (m.funcs.drop (k+1))) f.sents asl wx j rest) (fun i _=>f.sents.len - (intOf i).toNat)
       case atStart=>exact⟨0,f.sents,rfl,hst⟩
       case round=>
        clear hst y2;obtain⟨j,rest,rfl,hT⟩:=hrel;cases rest with
        |
         nil=>
         have hj:j=f.sents.len:=by have:=hT.len; simpa[Ss.len] using this
         have m0:decide ((j:Int)<(f.sents.len:Int))=false:=Zf;have HNX:Hid (FoF w3 R m.funcs wr (k+1)):=Zh ⟨hBw.out.trans (hT.below.mono hBw.out.size),hk,hT.eq⟩;clear hT HL;subst hj;go_wp2;go_roundw
         case rel=>exact⟨k+1,by go_num,HNX.out⟩
         case measure=>simp[intOf]; omega
        |
         cons xl xt xr xs xb rest=>
         have hkl:=hT.len;simp only[Ss.len] at hkl;have m0:decide ((j:Int)<(f.sents.len:Int))=true:=Zt;have m1:decide (j<f.sents.len)=true:=Zt;obtain⟨g,o,rfl,⟨v0,q0,hv0⟩,⟨v1,q1,hv1⟩,⟨v2,q2,hv2⟩,⟨v3,q3,hv3⟩,⟨a5,c5,q4,hv4⟩,hrest⟩:=hT.tail (fun q=>by cases q);obtain⟨u0,u1,u2,u3,u4,u5⟩:=hT.fine;have hgl:=World.block_lt_of_cell? w4 _ q0;have p0:=(hT.below.cell (p:=⟨g,o+j*5,none⟩) hgl).trans q0;have p1:=(hT.below.cell (p:=⟨g,o+j*5+1,none⟩) hgl).trans q1;have p2:=(hT.below.cell (p:=⟨g,o+j*5+2,none⟩) hgl).trans q2;have p3:=(hT.below.cell (p:=⟨g,o+j*5+3,none⟩) hgl).trans q3;have p4:=(hT.below.cell (p:=⟨g,o+j*5+4,none⟩) hgl).trans q4;obtain⟨av0,cv0,rfl⟩:=hv0.form;obtain⟨av1,cv1,rfl,hh1⟩:=hv1;obtain⟨av2,cv2,rfl⟩:=hv2.form;obtain⟨av3,cv3,rfl⟩:=hv3.form;have hIH:∀W,Below wr.heap.size wr W->Calls Tryz.prog 52 #[.agg #[.slice av0 xl.len cv0,.slice av1 xt.length cv1,.slice av2 xr.len cv2,.slice av3 xs.len cv3,.slice a5 xb.len c5],.int .i64 0] W (FmQ (YdW 0 xl xt xr xs xb) W):=fun W hW=>by
          have hBW:=hT.below.trans (hW.mono hT.below.size);have h:=YfQ (xb.sz+1) xl xt xr xs xb _ _ _ _ _ 0 W Zo (hv0.below hBW (fun _ _ _=>trivial)) (Jv.keep (T:=fun _=>True) ⟨av1,cv1,rfl,hh1⟩ (fun k _ hk=>hBW.block k hk) (fun _ _ _=>trivial))
           (hv2.below hBW (fun _ _ _=>trivial)) (hv3.below hBW (fun _ _ _=>trivial)) (SsV.keep (T:=fun _=>True) ⟨a5,c5,rfl,hv4⟩ (fun k _ hk=>hBW.block k hk) (fun _ _ _=>trivial)) u0 u1 u2 u3 u4 Zo
          exact h
         have hEQ:R=orC (YdW 0 xl xt xr xs xb) (orC (Ss.form 0 rest) (Yam (m.funcs.drop (k+1)))):=hT.eq.trans (Yb6 _ _ _);have hI:=hIH _ (below_alloc1 wr (.cells #[.slice av0 xl.len cv0,.slice av1 xt.length cv1,.slice av2 xr.len cv2,.slice av3 xs.len cv3,.slice a5 xb.len c5] 39));have HBA:=Zh (below_alloc1 wr (.cells #[.slice av0 xl.len cv0,.slice av1 xt.length cv1,.slice av2 xr.len cv2,.slice av3 xs.len cv3,.slice a5 xb.len c5] 39));have HEQ2:=Zh hEQ;have HI:=Zh hI;generalize YdW 0 xl xt xr xs xb=E2 at HEQ2 HI;have HTT:=Zh (And.intro hrest u5);clear hIH hI hEQ hv0 hv2 hv3 hv4 hh1 q0 q1 q2 q3 q4 u0 u1 u2 u3 u4 u5 hrest hgl HL;go_wp2_with fail;refine HI.out.mono ?_;rintro e w5 ⟨rfl,hb5⟩;have hB5:=HBA.out.trans (hb5.mono HBA.out.size);by_cases he2:E2=0
         ·subst he2;have HNN:Hid (FoS w4 R (Yam (m.funcs.drop (k+1))) f.sents (some ⟨g,o,none⟩) w5 (j+1) rest):=Zh ⟨hT.below.trans (hB5.mono hT.below.size),by omega,fun _=>⟨g,o,rfl,by rw[show o+(j+1)*5=o+j*5+5 by omega]; exact HTT.out.1⟩,HTT.out.2,HEQ2.out⟩;clear HEQ2 HI hb5 hB5 HTT;go_wp2;go_roundw
          case rel=>exact⟨j+1,rest,by go_num,HNN.out⟩
          case measure=>simp[intOf]; omega
         ·have hc2:(E2 != 0)=true:=by simpa using he2
          have HX6:Hid (R=E2):=Zh (by rw[HEQ2.out]; unfold orC; rw[if_neg he2]);have HBB:=Zh (HB.out.trans ((hBw.out.trans ((hT.below.trans (hB5.mono hT.below.size)).mono hBw.out.size)).mono HB.out.size));clear he2 HEQ2 HI hb5 hB5 HTT;go_wp2;go_ret;exact⟨by rw[HX6.out]; rfl,HBB.out⟩
      ·have hc:(E != 0)=true:=by simpa using h0
       have HX4:Hid (R=E):=Zh (by rw[HEQ.out]; unfold orC; rw[if_neg h0]);have HBB:=Zh (HB.out.trans (hBw.out.mono HB.out.size));clear h0 HEQ y2;go_wp2;go_ret;exact⟨by rw[HX4.out]; rfl,HBB.out⟩
    ·have l0:decide ((k:Int)<(m.funcs.length:Int))=false:=Zf;have l1:decide (k<m.funcs.length)=false:=decide_eq_false hk;have HX:Hid (R=0):=Zh (by rw[hS.eq,List.drop_eq_nil_of_le Zo]; rfl);have HBB:=Zh (HB.out.trans (hS.below.mono HB.out.size));clear hS;go_wp2;go_ret;exact⟨by rw[HX.out]; rfl,HBB.out⟩
theorem Yjn {k:Int}{t:ByteArray}{n:Nat}(h:YS k t n=true):t.size<=1000000:=by
 unfold YS at h;split at h
 ·have:=of_decide_eq_true h; omega
 ·split at h
  ·unfold YC at h;simp only[Bool.and_eq_true,decide_eq_true_eq] at h;omega
  ·split at h
   ·cases h
   ·split at h
    ·have:=of_decide_eq_true h; omega
    ·split at h
     ·unfold Ja at h;simp only[Bool.and_eq_true,decide_eq_true_eq] at h;omega
     ·split at h
      ·rw[YeK] at h;simp only[Bool.and_eq_true,decide_eq_true_eq] at h;have h5:=h.1.1.2;rw[Yk4] at h5;unfold numT at h5;split at h5
       ·rw[ByteArray.size_extract] at h5; omega
       ·omega
      ·split at h
       ·unfold J6 at h;simp only[Bool.and_eq_true,decide_eq_true_eq] at h;omega
       ·cases h
theorem YbE (most:Int):∀l:Ts,l.right most=true->l.small
 |.nil,_=>trivial
 |
  .cons k t kids rest,h=>by
  unfold Ts.right at h;simp only[Bool.and_eq_true] at h;exact⟨Yjn h.1.1.2,YbE most kids h.1.2,YbE most rest h.2⟩
theorem Ybl {most:Int}{l:Ts}(h:YT most l=0):l.fine:=by
 obtain⟨h1,_,h3⟩:=Ycv.1 h;exact⟨by omega,YbE most l h3⟩
def Ss.lens (K:Nat):Ss->Prop
 |.nil=>True
 |.cons _ tests _ _ block rest=>tests.length<=K/\(block.lens K/\block.len<=K)/\rest.lens K
theorem Ss.lens_app {K:Nat}:∀a b:Ss,a.lens K->b.lens K->(a.app b).lens K
 |.nil,_,_,h=>h
 |.cons _ _ _ _ _ rest,b,⟨h1,h2,h3⟩,h=>⟨h1,h2,Ss.lens_app rest b h3 h⟩
theorem Ya3:∀l:List (Ts×Ts),Ybc l=0->YaQ l
 |[],_=>trivial
 |
  x::l,h=>by
  obtain⟨h1,h2⟩:=YL.1 h;obtain⟨h3,h4⟩:=YL.1 h1;exact⟨Ybl h3,Ybl h4,Ya3 l h2⟩
theorem YiM:Ts.fine .nil:=⟨by simp[Ts.nodes],trivial⟩
theorem len0:∀{l:Ts},l.len=0->l= .nil
 |.nil,_=>rfl
 |.cons ..,h=>by simp[Ts.len] at h
theorem Ygd {K:Nat}(hK:K<=1000000000000):∀(s:Ss) (blocks:Nat),s.form blocks=0->s.lens K->s.fine
 |.nil,_,_,_=>trivial
 |
  .cons left tests right subject block rest,blocks,h,⟨l1,⟨l2,l3⟩,l4⟩=>by
  obtain⟨h1,h2⟩:=YL.1 (show orC (YdW blocks left tests right subject block) (Ss.form blocks rest)=0 from h);obtain⟨h3,h4⟩:=YL.1 h1;obtain⟨h5,h6⟩:=YL.1 h4;have hr:=Ygd hK rest blocks h2 l4;unfold YdU at h6;split at h6
  ·rename_i hb
   obtain⟨h7,h8⟩:=YL.1 h6;have hs:subject.len=0:=Decidable.byContradiction fun q=>by rw[if_neg q] at h7; cases h7
   have hbn:=(Ss.len_zero block).1 hb;subst hbn;rw[len0 hs];exact⟨Ybl h3,⟨Ya3 tests h5,by omega⟩,Ybl h8,YiM,⟨trivial,by simp[Ss.len]⟩,hr⟩
  ·obtain⟨h7,h8⟩:=YL.1 h6;obtain⟨h9,h10⟩:=YL.1 h8;obtain⟨h11,h12⟩:=YL.1 h10;have hs:right.len=0:=Decidable.byContradiction fun q=>by rw[if_neg q] at h7; cases h7
   rw[len0 hs];exact⟨Ybl h3,⟨Ya3 tests h5,by omega⟩,YiM,Ybl h11,⟨Ygd hK block (blocks+1) h12 l2,by omega⟩,hr⟩
section
variable {L:List Tk}{en:Nat}
mutual
theorem Yer:∀(n blocks i:Nat) (left:Ts) (tests:List (Ts×Ts)) (s:Ss) (j:Nat),tests.length<=i->JV L en n blocks i left tests= .ok s j->s.lens L.length
 |0,blocks,i,left,tests,s,j,ht,h=>by unfold JV at h; cases h
 |
  n+1,blocks,i,left,tests,s,j,ht,h=>by
  by_cases hc:isN L i 6 JQ=true
  ·have hl:=YaC hc;rw[Yc2 hc] at h;obtain⟨e,j1,he,h⟩:=Rd.bind_inv h;obtain⟨u,k,hm,h⟩:=Rd.bind_inv h;have e1:=JM he;have e2:=(YG hm).2;split at h
   ·split at h
    ·cases h
    ·obtain⟨b,q,hb,h⟩:=Rd.bind_inv h;obtain⟨b1,b2,_⟩:=Yfx _ _ _ _ _ hb;cases h;exact⟨by omega,⟨b1,b2⟩,trivial⟩
   ·obtain⟨p,q,hp,h⟩:=Rd.bind_inv h;have e5:=JM hp;exact Yer n _ _ _ _ _ _ (by rw[List.length_append,List.length_singleton]; omega) h
  ·have hc:isN L i 6 JQ=false:=by simpa using hc
   rw[Ygg hc] at h;obtain⟨u,k,hm,h⟩:=Rd.bind_inv h;obtain⟨r,q,hr,h⟩:=Rd.bind_inv h;have e3:=YaC (YG hm).1;cases h;exact⟨by omega,⟨trivial,by simp[Ss.len]⟩,trivial⟩
theorem Yfx:∀(n blocks i:Nat) (s:Ss) (j:Nat),YZ L en n blocks i= .ok s j->s.lens L.length/\s.len<=L.length/\j<=L.length
 |0,blocks,i,s,j,h=>by unfold YZ at h; cases h
 |
  n+1,blocks,i,s,j,h=>by
  unfold YZ at h;split at h
  ·cases h
  ·exact Yhr n blocks i .nil s j (Nat.zero_le _) trivial h
theorem Yhr:∀(n blocks i:Nat) (acc s:Ss) (j:Nat),acc.len<=i->acc.lens L.length->YaF L en n blocks i acc= .ok s j->s.lens L.length/\s.len<=L.length/\j<=L.length
 |0,blocks,i,acc,s,j,_,_,h=>by unfold YaF at h; cases h
 |
  n+1,blocks,i,acc,s,j,ha,hl,h=>by
  unfold YaF at h;obtain⟨left,j1,he,h⟩:=Rd.bind_inv h;obtain⟨x,k,hs,h⟩:=Rd.bind_inv h;have e1:=JM he;have e2:=Ydw _ _ _ _ _ _ _ hs;have e3:=Yd4 _ _ _ _ _ _ _ hs;have e4:=Yer n _ _ _ _ _ _ (Nat.zero_le _) hs;have hl2:=Ss.lens_app acc x hl e4;have hn:(acc.app x).len=acc.len+1:=by rw[Ss.len_app,e3]
  split at h
  ·rename_i hb
   have e5:=YaC hb;split at h
   ·rename_i hb2
    have e6:=YaC hb2;cases h;exact⟨hl2,by omega,by omega⟩
   ·exact Yhr n _ _ _ _ _ Zo hl2 h
  ·split at h
   ·rename_i hb
    have e5:=YaC hb;cases h;exact⟨hl2,by omega,by omega⟩
   ·cases h
end
end
theorem Yll {L:List Tk}{en i:Nat}{m m':Md}{j:Nat}(hm:∀f∈m.funcs,f.sents.lens L.length/\f.sents.len<=L.length)(h:YaA L en i m= .ok m' j):(∀f∈m'.funcs,f.sents.lens L.length/\f.sents.len<=L.length)/\j<=L.length:=by
 unfold YaA at h;split at h
 ·obtain⟨l,k,h1,h2⟩:=Rd.bind_inv h;obtain⟨u,k2,h3,h4⟩:=Rd.bind_inv h2;have e3:=YaC (YG h3).1;have e2:=(YG h3).2;cases h4;exact⟨hm,by omega⟩
 ·obtain⟨nm,k,h1,h2⟩:=Rd.bind_inv h;obtain⟨u,k2,h3,h4⟩:=Rd.bind_inv h2;obtain⟨b,q,h5,h6⟩:=Rd.bind_inv h4;obtain⟨e1,e2,e3⟩:=Yfx _ _ _ _ _ h5;cases h6;refine⟨fun f hf=>?_,e3⟩;rcases List.mem_append.1 hf with hf | hf
  ·exact hm f hf
  ·rw[List.mem_singleton] at hf;subst hf;exact⟨e1,e2⟩
theorem YfL {L:List Tk}{en:Nat}:∀(n i:Nat) (m m':Md) (j:Nat),i<=L.length->m.externs.length<=i->m.funcs.length<=i->(∀f∈m.funcs,f.sents.lens L.length/\f.sents.len<=L.length)->Jm L en n i m= .ok m' j->
 m'.externs.length<=L.length/\m'.funcs.length<=L.length/\∀f∈m'.funcs,f.sents.lens L.length/\f.sents.len<=L.length
 |0,i,m,m',j,_,_,_,_,h=>by unfold Jm at h; cases h
 |
  n+1,i,m,m',j,hi,h1,h2,h3,h=>by
  unfold Jm at h;split at h
  ·obtain⟨x,k,hx,h⟩:=Rd.bind_inv h;obtain⟨e1,e2,e3⟩:=Ygs hx;obtain⟨e4,e5⟩:=Yll h3 hx;exact YfL n k x m' j e5 Zo Zo e4 h
  ·cases h;exact⟨by omega,by omega,h3⟩
theorem YfP:∀(l:List Fn),Yam l=0->∀f∈l,f.sents.form 0=0
 |[],_,f,hf=>by simp at hf
 |
  x::l,h,f,hf=>by
  obtain⟨h1,h2⟩:=YL.1 h;obtain⟨h3,h4⟩:=YL.1 h2;rcases List.mem_cons.1 hf with rfl | hf
  ·exact h3
  ·exact YfP l h4 f hf
theorem Yhh {s:ByteArray}{m:Md}{j:Nat}(hs:s.size<=40000)(h:readB s= .ok m j):m.fine:=by
 have hf:=Yhg h;rw[Ygm] at h;unfold Ycz at h;split at h
 ·cases h
 ·rename_i l sp hsc
  obtain⟨h1,h2,h3⟩:=YfL _ _ _ _ _ (Nat.zero_le _) (Nat.le_refl _) (Nat.le_refl _) Zs h;have hl:=(Ycn hsc).1;obtain⟨_,hf2⟩:=YbK.1 hf;exact⟨by omega,by omega,fun f hfm=>⟨Ygd (K:=l.length) Zo _ 0 (YfP _ hf2 f hfm) (h3 f hfm).1,by have:=(h3 f hfm).2; omega⟩⟩
def Yfc (T:Ts):ByteArray×Int:=if YT 8 T=0 then limB (Ydn T) else (⟨#[]⟩,YT 8 T)
theorem Ym0 (T:Ts)(v:Value)(w:World)(hT:TsV w (fun _=>True) v T)(hbig:T.nodes<=1000000000000)(hsm:T.small):
 Calls Tryz.prog 201 #[v] w fun e w'=>e= .returned (.tuple #[.string (Yfc T).1,.int .i64 (Yfc T).2])/\Below w.heap.size w w':=by
 have hC:=Ycy T v w hT hbig hsm;unfold CkQ at hC;obtain⟨ao,cap,rfl⟩:=hT.form;by_cases hf:YT 8 T=0
 ·have HX:Hid (Yfc T=limB (Ydn T)):=Zh (by unfold Yfc; rw[if_pos hf]);obtain⟨h1,_,h3⟩:=Ycv.1 hf;rw[hf] at hC;have HT:=Zh hT;have HR:=Zh h3;have HWL:=Zh (Yfj T none h3);clear hf hT h3 hsm;go_enter Tryz.func201,Tryz.ntmps201;go_wp2_with fail;refine hC.mono ?_;rintro e w1 ⟨rfl,hb1⟩;have HB1:=Zh hb1;clear hb1 hC;go_wp2_with fail;obtain⟨V,hV⟩:∃V,V=w1.alloc (.cells #[.pointer none,.slice none 0 0] 142):=⟨_,rfl⟩;have hn:V.heap[w1.heap.size]? =some (.cells #[.pointer none,.slice none 0 0] 142 (0,0)):=by rw[hV]; exact heap_alloc_new _ _
  have hbV:Below w1.heap.size w1 V:=by rw[hV]; exact below_alloc1 _ _
  have hIV:IsB w1.heap.size w1.heap.size [] V:=.inl ⟨Nat.le_refl _,_,hn,⟨rfl,.inl ⟨rfl,rfl⟩⟩,by simp[Value.ownBlock]⟩;rw[<-hV];have hlt:=(Zg hn).1;have hTV:TsV V (fun k=>k<w1.heap.size) (.slice ao T.len cap) T:=HT.out.keep (fun k _ hk=>(hbV.block k (Nat.lt_of_lt_of_le hk HB1.out.size)).trans (HB1.out.block k hk)) (fun k _ hk=>Nat.lt_of_lt_of_le hk HB1.out.size);have HWR:=Zh (Yl2 w1.heap.size w1.heap.size (T.nodes+1) T _ [] V Zo HR.out hTV hIV hlt (Nat.le_refl _) (by simp; omega));have HBV:=Zh hbV;clear hV hn hIV hTV hbV;refine HWR.out.mono ?_;rintro e w2 ⟨rfl,hI2,hO2⟩;rw[List.nil_append] at hI2;have HI2:=Zh hI2;have HB2:Hid (Below w.heap.size w w2):=Zh (HB1.out.trans ((HBV.out.trans hO2.below).mono HB1.out.size));have hsz2:w1.heap.size<=w2.heap.size:=by have:=hO2.size; omega
  have hL:=Tryz.Builder_Len w1.heap.size w1.heap.size _ w2 hI2;rw[Lib.byteCells_length] at hL;have HL:=Zh hL;have HS:=Zh (Tryz.Builder_String_any w1.heap.size w1.heap.size (T.wr none) w2 hI2 hsz2);clear HWR hI2 hO2 hL;have hwl:=HWL.out;have e0:(Ydn T).size=(T.wr none).length:=Ye6 _;by_cases h4:40000<(T.wr none).length
  ·have HQ:Hid (Yfc T=(⟨#[]⟩,7)):=Zh (by rw[HX.out]; unfold limB; rw[e0,if_pos h4]);have l1:decide ((40000:Int)<((T.wr none).length:Int))=true:=Zt;clear h4 e0;go_wp2_with fail;refine HL.out.mono ?_;rintro e w3 ⟨rfl,rfl⟩;go_wp2_with fail;go_ret2
   exact⟨by rw[HQ.out]; rfl,HB2.out⟩
  ·have HQ:Hid (Yfc T=(Ydn T,0)):=Zh (by rw[HX.out]; unfold limB; rw[e0,if_neg h4]);have l1:decide ((40000:Int)<((T.wr none).length:Int))=false:=Zf;clear h4 e0;go_wp2_with fail;refine HL.out.mono ?_;rintro e w3 ⟨rfl,rfl⟩;go_wp2_with fail;refine HS.out.mono ?_;rintro e w4 ⟨rfl,hb4⟩;have HB4:Hid (Below w.heap.size w w4):=Zh (HB2.out.trans (hb4.mono HB1.out.size));clear hb4;go_wp2_with fail;go_ret2
   exact⟨by rw[HQ.out]; rfl,HB4.out⟩
 ·have HX:Hid (Yfc T=(⟨#[]⟩,YT 8 T)):=Zh (by unfold Yfc; rw[if_neg hf]);have e1:(YT 8 T==0)=false:=by simpa using hf
  have e2:(YT 8 T != 0)=true:=by simpa using hf
  generalize YT 8 T=R at*;clear hf hT hsm hbig;go_enter Tryz.func201,Tryz.ntmps201;go_wp2_with fail;refine hC.mono ?_;rintro e w1 ⟨rfl,hb1⟩;clear hC;go_wp2_with fail;go_ret2
  exact⟨by rw[HX.out]; rfl,hb1⟩
theorem Yob (T:Ts)(v:Value)(w:World)(hT:TsV w (fun _=>True) v T)(hok:T.ok)(hlen:(Ydn T).size<=40000):
 Calls Tryz.prog 201 #[v] w fun e w'=>e= .returned (.tuple #[.string (Ydn T),.int .i64 0])/\Below w.heap.size w w':=by
 have h:=Ym0 T v w hT (by have:=hok.nodes; omega) (YbE 8 T hok.right);have e:Yfc T=(Ydn T,0):=by unfold Yfc limB; rw[if_pos (Ts.ok_form hok),if_neg Zo]
 rw[e] at h;exact h
section
open Go.RowKit Go.Shelf
attribute [local go_sem] Oper.semAt_some
def yV (l:Nat):Value:=.func (.yield l) #[] #[]
def YhM (x:ByteArray):Array Value:=#[.string x]
def YoI (l:Nat)(J:List ByteArray->(Nat->Prop)->World->Prop)(B0:Nat)(all:List ByteArray):Prop:=
 ∀pre x r F W1,all=pre++x::r->B0<=W1.heap.size->(∀k,F k->k<W1.heap.size)->J pre F W1->
  YieldAt Fence.wide 4 Tryz.prog l (YhM x) W1 fun e W'=>e= .returned (.bool true)/\∃F',J (pre++[x]) F' W'/\Grow F F' W1 W'
def YcY (T:Ts):Prop:=
 ∀(lb l B0:Nat) (v:Value) (J:List ByteArray->(Nat->Prop)->World->Prop) (F:Nat->Prop) (W:World) (all pre post:List ByteArray),all=pre++(T.wordsB++post)->T.ok->B0<=W.heap.size->(∀s F,Stab B0 F (J s F))->YoI l J B0 all->
  (∀k,F k->k<W.heap.size)->lb<W.heap.size->¬F lb->W.cell? ⟨lb,0,none⟩=some v->TsV W (fun k=>k<W.heap.size/\¬F k) v T->J pre F W->
  Calls Tryz.prog 198 #[yV l,.pointer (some ⟨lb,0,none⟩)] W fun e W'=>(∃v,e= .returned v)/\∃F',J (pre++T.wordsB) F' W'/\Grow F F' W W'
theorem YcY.seq {T:Ts}(h:YcY T)(hok:T.ok){lb:Nat}{v:Value}{F0:Nat->Prop}{w:World}(hlb:lb<w.heap.size)(hF:¬F0 lb)(hc:w.cell? ⟨lb,0,none⟩=some v)(hT:TsV w (fun k=>k<w.heap.size/\¬F0 k) v T):
 SeqT Tryz.prog 198 #[.pointer (some ⟨lb,0,none⟩)] YhM T.wordsB F0 w:=by
 intro l J F W hb hFF hJ hY h0 hlt;refine h lb l W.heap.size v J F W T.wordsB [] [] Zs hok (Nat.le_refl _) hJ (fun pre x r F1 W1=>hY pre x r F1 W1) hlt (Nat.lt_of_lt_of_le hlb hb.size) (fun q=>hF (hFF _ q)) ((hb.cell (p:=⟨lb,0,none⟩) hlb).trans hc) ?_ h0;exact hT.keep (fun k q _=>hb.block k q.1) (fun k q _=>⟨Nat.lt_of_lt_of_le q.1 hb.size,fun e=>q.2 (hFF _ e)⟩)
theorem YgJ (ao:Option Addr)(n cap:Nat)(w:World):
 Calls Tryz.prog 148 #[.slice ao n cap] w fun e w'=>e= .returned (.func (.func 198) #[] #[.pointer (some ⟨w.heap.size,0,none⟩)])/\w'=w.alloc (.cells #[.slice ao n cap] 35):=by
 go_enter Tryz.func148,Tryz.ntmps148;go_wp2;go_ret;exact⟨rfl,rfl⟩
def ardV (q:Nat):Value:=.func (.func 229) #[] #[.pointer (some ⟨q,0,none⟩),.pointer (some ⟨q+3,0,none⟩),.pointer (some ⟨q+1,0,none⟩),.pointer (some ⟨q+2,0,none⟩)]
structure ArBox (q:Nat)(o en:ByteArray)(d:Bool)(v:Value)(w:World):Prop where
 b0:w.heap[q]? =some (.cells #[.string o] 9 (0,0))
 b1:w.heap[q+1]? =some (.cells #[v] 35 (0,0))
 b2:w.heap[q+2]? =some (.cells #[.string en] 9 (0,0))
 b3:w.heap[q+3]? =some (.cells #[.bool d] 4 (0,0))
theorem Yni (w:World)(a b c d:Array Value)(ta tb tc td:TypeId):
 ((((w.alloc (.cells a ta)).alloc (.cells b tb)).alloc (.cells c tc)).alloc (.cells d td)).heap[w.heap.size]? =some (.cells a ta (0,0))/\
 ((((w.alloc (.cells a ta)).alloc (.cells b tb)).alloc (.cells c tc)).alloc (.cells d td)).heap[w.heap.size+1]? =some (.cells b tb (0,0))/\
 ((((w.alloc (.cells a ta)).alloc (.cells b tb)).alloc (.cells c tc)).alloc (.cells d td)).heap[w.heap.size+2]? =some (.cells c tc (0,0))/\
 ((((w.alloc (.cells a ta)).alloc (.cells b tb)).alloc (.cells c tc)).alloc (.cells d td)).heap[w.heap.size+3]? =some (.cells d td (0,0))/\
 Below w.heap.size w ((((w.alloc (.cells a ta)).alloc (.cells b tb)).alloc (.cells c tc)).alloc (.cells d td))/\
 ((((w.alloc (.cells a ta)).alloc (.cells b tb)).alloc (.cells c tc)).alloc (.cells d td)).heap.size=w.heap.size+4:=by
 have h0:=heap_alloc_new w (.cells a ta);have g0:=below_alloc1 w (.cells a ta);have z0:(w.alloc (.cells a ta)).heap.size=w.heap.size+1:=Zs;generalize w.alloc (.cells a ta)=W1 at h0 g0 z0⊢;have h1:=heap_alloc_new W1 (.cells b tb);have g1:=below_alloc1 W1 (.cells b tb);have z1:(W1.alloc (.cells b tb)).heap.size=w.heap.size+2:=by simp[z0]
 generalize W1.alloc (.cells b tb)=W2 at h1 g1 z1⊢;have h2:=heap_alloc_new W2 (.cells c tc);have g2:=below_alloc1 W2 (.cells c tc);have z2:(W2.alloc (.cells c tc)).heap.size=w.heap.size+3:=by simp[z1]
 generalize W2.alloc (.cells c tc)=W3 at h2 g2 z2⊢;have h3:=heap_alloc_new W3 (.cells d td);have g3:=below_alloc1 W3 (.cells d td);have z3:(W3.alloc (.cells d td)).heap.size=w.heap.size+4:=by simp[z2]
 generalize W3.alloc (.cells d td)=W4 at h3 g3 z3⊢;rw[z0] at h1;rw[z1] at h2;rw[z2] at h3;exact⟨(g3.block _ Zo).trans ((g2.block _ Zo).trans ((g1.block _ Zo).trans h0)),(g3.block _ Zo).trans ((g2.block _ Zo).trans h1),(g3.block _ Zo).trans h2,h3,
  g0.trans ((g1.mono Zo).trans ((g2.mono Zo).trans (g3.mono Zo))),z3⟩
theorem YfY (o en:ByteArray)(d:Bool)(ao:Option Addr)(n cap:Nat)(w:World):
 Calls Tryz.prog 200 #[.string o,.slice ao n cap,.string en,.bool d] w fun e w'=>e= .returned (ardV w.heap.size)/\ArBox w.heap.size o en d (.slice ao n cap) w'/\Below w.heap.size w w'/\w'.heap.size=w.heap.size+4:=by
 obtain⟨h0,h1,h2,h3,hb,hz⟩:=Yni w #[.string o] #[.slice ao n cap] #[.string en] #[.bool d] 9 35 9 4;have H:=Zh (And.intro h0 (And.intro h1 (And.intro h2 (And.intro h3 (And.intro hb hz)))));clear h0 h1 h2 h3 hb hz;go_enter Tryz.func200,Tryz.ntmps200;go_wp2;go_ret;obtain⟨h0,h1,h2,h3,hb,hz⟩:=H.out;exact⟨rfl,⟨h0,h1,h2,h3⟩,hb,hz⟩
structure ArI (l:Nat)(J:List ByteArray->(Nat->Prop)->World->Prop)(pre:List ByteArray)(o:ByteArray)(d:Bool)(F0:Nat->Prop)(W0:World)(q:List ByteArray)(F2:Nat->Prop)(X:World):Prop where
 ex:∃F,J (pre++(YU o d q).out) F X/\Grow F0 F W0 X/\(∀k,F2 k↔F k\/k=W0.heap.size+2\/k=W0.heap.size+3)/\(∀k,F k->k<W0.heap.size\/W0.heap.size+7<=k)
 b0:X.heap[W0.heap.size]? =some (.cells #[yV l] 48 (0,0))
 b1:X.heap[W0.heap.size+1]? =some (.cells #[.bool false] 4 (0,0))
 b2:X.heap[W0.heap.size+2]? =some (.cells #[.string (YU o d q).last] 9 (0,0))
 b3:X.heap[W0.heap.size+3]? =some (.cells #[.bool (YU o d q).joined] 4 (0,0))
section
variable {l B0:Nat}{J:List ByteArray->(Nat->Prop)->World->Prop}{pre:List ByteArray}{o x:ByteArray}{d:Bool}{F0 F2:Nat->Prop}{W0 X Y:World}{q:List ByteArray}
theorem ArI.stab (hJ:∀s F,Stab B0 F (J s F))(hB:B0<=W0.heap.size):Stab (W0.heap.size+5) F2 (ArI l J pre o d F0 W0 q F2):=by
 rintro X Y ⟨⟨F,h1,h2,h3,h4⟩,b0,b1,b2,b3⟩ hK;have hb:∀{k:Nat} {ob:Obj},k<W0.heap.size+5->X.heap[k]? =some ob->Y.heap[k]? =some ob:=fun hk h=>(hK.block _ (Zg h).1 (fun e=>by omega)).trans h;exact⟨⟨F,hJ _ F X Y h1 (hK.mono fun i _ e=>⟨by omega,fun f=>e.2 ((h3 i).2 (.inl f))⟩),h2.then hK (fun i hi e=>by omega),h3,h4⟩,hb Zo b0,hb Zo b1,hb Zo b2,hb Zo b3⟩
theorem Yks {W:World}{g:Nat}{old:Value}{t:TypeId}(h:W.heap[g]? =some (.cells #[old] t (0,0)))(new:Value):(W.setCell ⟨g,0,none⟩ new).heap[g]? =some (.cells #[new] t (0,0)):=by
 have:=heap_setCell_same W g 0 _ _ new h;simpa using this
theorem ArI.joined (hJ:∀s F,Stab B0 F (J s F))(hB:B0<=W0.heap.size)(h:ArI l J pre o d F0 W0 q F2 X)(hj:(YU o d q).joined=true)(hX:∀k,F2 k->k<X.heap.size):
 let Y:=(X.setCell ⟨W0.heap.size+2,0,none⟩ (.string ((YU o d q).last++x))).setCell ⟨W0.heap.size+3,0,none⟩ (.bool false)
 ArI l J pre o d F0 W0 (q++[x]) F2 Y/\Grow F2 F2 X Y:=by
 obtain⟨⟨F,h1,h2,h3,h4⟩,b0,b1,b2,b3⟩:=h;intro Y;have K1:=Keep.of_setCell X ⟨W0.heap.size+2,0,none⟩ (.string ((YU o d q).last++x));have K2:=Keep.of_setCell (X.setCell ⟨W0.heap.size+2,0,none⟩ (.string ((YU o d q).last++x))) ⟨W0.heap.size+3,0,none⟩ (.bool false);have K:Keep (fun k=>k=W0.heap.size+2\/k=W0.heap.size+3) X Y:=(K1.mono (fun _ _ e=>.inl e)).trans K2 (fun _ _ e=>.inr e);obtain⟨a1,a2,a3⟩:=YjL (x:=x) hj;have hlt:=(Zg b3).1;have n2:∀{k:Nat},k=W0.heap.size+2\/k=W0.heap.size+3->¬F k:=fun e f=>by have:=h4 _ f; omega
 refine⟨⟨⟨F,?_,h2.then K (fun i hi e=>by omega),h3,h4⟩,?_,?_,?_,?_⟩,⟨K.mono (fun k _ e=>(h3 k).2 (.inr e)),fun _ e=>.inl e,fun k e=>Nat.lt_of_lt_of_le (hX k e) K.size⟩⟩
 ·rw[a1]; exact hJ _ F X Y h1 (K.mono fun i _ e=>⟨by omega,n2 e⟩)
 ·exact(K.block _ Zo Zo).trans b0
 ·exact(K.block _ Zo Zo).trans b1
 ·rw[a2]; exact(K2.block _ (by simp[World.setCell]; omega) (by show ¬W0.heap.size+2=W0.heap.size+3; omega)).trans (Yks b2 _)
 ·rw[a3];exact Yks ((K1.block _ hlt (by show ¬W0.heap.size+3=W0.heap.size+2; omega)).trans b3) _
theorem ArI.emit (hJ:∀s F,Stab B0 F (J s F))(hB:B0<=W0.heap.size)(b0:X.heap[W0.heap.size]? =some (.cells #[yV l] 48 (0,0)))(b1:X.heap[W0.heap.size+1]? =some (.cells #[.bool false] 4 (0,0)))
 (b2:X.heap[W0.heap.size+2]? =some (.cells #[.string (YU o d q).last] 9 (0,0)))(b3:X.heap[W0.heap.size+3]? =some (.cells #[.bool (YU o d q).joined] 4 (0,0))){F F':Nat->Prop}(h2:Grow F0 F W0 X)(h3:∀k,F2 k↔F k\/k=W0.heap.size+2\/k=W0.heap.size+3)(h4:∀k,F k->k<W0.heap.size\/W0.heap.size+7<=k)
 (hz:W0.heap.size+7<=X.heap.size)(hj:(YU o d q).joined=false)(hJ':J (pre++(YU o d q).out++[(YU o d q).last]) F' Y)(hG:Grow F F' X Y):
 ∃F2',ArI l J pre o d F0 W0 (q++[x]) F2' (Y.setCell ⟨W0.heap.size+2,0,none⟩ (.string x))/\Grow F2 F2' X (Y.setCell ⟨W0.heap.size+2,0,none⟩ (.string x)):=by
 have K:=Keep.of_setCell Y ⟨W0.heap.size+2,0,none⟩ (.string x);obtain⟨a1,a2,a3⟩:=Yi5 (x:=x) hj;have h4':∀k,F' k->k<W0.heap.size\/W0.heap.size+7<=k:=fun k e=>(hG.sub k e).elim (h4 k) (fun e=>.inr Zo);have nF:∀{k:Nat},W0.heap.size<=k->k<W0.heap.size+7->¬F k:=fun h1 h2 f=>by have:=h4 _ f; omega
 have hzY:=hG.keep.size;have c0:=(hG.keep.block _ Zo (nF (Nat.le_refl _) Zo)).trans b0;have c1:=(hG.keep.block _ Zo (nF Zo Zo)).trans b1;have c2:=(hG.keep.block _ Zo (nF Zo Zo)).trans b2;have c3:=(hG.keep.block _ Zo (nF Zo Zo)).trans b3;refine⟨fun k=>F' k\/k=W0.heap.size+2\/k=W0.heap.size+3,⟨⟨F',?_,(h2.trans hG).then K (fun i hi e=>by have e:i=W0.heap.size+2:=e; omega),fun k=>Iff.rfl,h4'⟩,?_,?_,?_,?_⟩,⟨?_,?_,?_⟩⟩
 ·rw[a1,<-List.append_assoc]; exact hJ _ F' Y _ hJ' (K.mono fun i _ e=>by have e:i=W0.heap.size+2:=e; exact⟨by omega,fun f=>by have:=h4' _ f; omega⟩)
 ·exact(K.block _ Zo (by show ¬W0.heap.size=W0.heap.size+2; omega)).trans c0
 ·exact(K.block _ Zo (by show ¬W0.heap.size+1=W0.heap.size+2; omega)).trans c1
 ·rw[a2]; exact Yks c2 _
 ·rw[a3,<-hj]; exact(K.block _ Zo (by show ¬W0.heap.size+3=W0.heap.size+2; omega)).trans c3
 ·exact(hG.keep.mono (fun k _ e=>(h3 k).2 (.inl e))).trans K (fun i _ e=>(h3 i).2 (.inr (.inl e)))
 ·rintro k (e | e)
  ·exact(hG.sub k e).imp (fun f=>(h3 k).2 (.inl f)) id
  ·exact .inl ((h3 k).2 (.inr e))
 ·rintro k (e | e)
  ·exact Nat.lt_of_lt_of_le (hG.lt k e) K.size
  ·have:=K.size; omega
end
end
section
open Go.RowKit Go.Shelf
attribute [local go_sem] Oper.semAt_some
theorem YoB (w:World)(a b c d e:Array Value)(ta tb tc td te:TypeId)(W:World)(hW:W=((((w.alloc (.cells a ta)).alloc (.cells b tb)).alloc (.cells c tc)).alloc (.cells d td)).alloc (.cells e te)):
 W.heap[w.heap.size]? =some (.cells a ta (0,0))/\W.heap[w.heap.size+1]? =some (.cells b tb (0,0))/\W.heap[w.heap.size+2]? =some (.cells c tc (0,0))/\W.heap[w.heap.size+3]? =some (.cells d td (0,0))/\W.heap[w.heap.size+4]? =some (.cells e te (0,0))/\
 Below w.heap.size w W/\W.heap.size=w.heap.size+5:=by
 obtain⟨h0,h1,h2,h3,hb,hz⟩:=Yni w a b c d ta tb tc td;rw[hW];clear hW;generalize(((w.alloc (.cells a ta)).alloc (.cells b tb)).alloc (.cells c tc)).alloc (.cells d td)=V at h0 h1 h2 h3 hb hz⊢;have h4:=heap_alloc_new V (.cells e te);have g4:=below_alloc1 V (.cells e te);rw[hz] at h4;exact⟨(g4.block _ Zo).trans h0,(g4.block _ Zo).trans h1,(g4.block _ Zo).trans h2,(g4.block _ Zo).trans h3,h4,hb.trans (g4.mono Zo),by simp[hz]⟩
def ArQ (J:List ByteArray->(Nat->Prop)->World->Prop)(s:List ByteArray)(F:Nat->Prop)(W:World)(e:Ending)(W':World):Prop:=e= .returned (.bool true)/\∃F',J s F' W'/\Grow F F' W W'
theorem YmL {R:Ending->World->Prop}{tmps:Array Value}{W':World}{D z:Nat}(t6:tmps[6]? =some (.pointer (some ⟨z,0,none⟩)))(hc:W'.heap[z]? =some (.cells #[.bool true] 4 (0,0)))(hD:W'.heap[D]? =some (.deferred (some [])))(hne:z≠D)
 (hQ:R (.returned (.bool true)) (W'.putObj D (.deferred none))):LeavesInM Fence.wide 6 Tryz.prog Tryz.f229 tmps R [{ target:=.collected D,args:=#[] }] .returning W':=by
 have h2:(W'.putObj D (.deferred none)).heap[z]? =some (.cells #[.bool true] 4 (0,0)):=(World.putObj_heap_other Zo).trans hc;have hcc:(W'.putObj D (.deferred none)).cell? ⟨z,0,none⟩=some (.bool true):=by simp[World.cell?,h2]
 have hr:(results Tryz.f229 tmps).run Tryz.prog (W'.putObj D (.deferred none))= .ok (.bool true) (W'.putObj D (.deferred none)):=by
  simp[results,Tryz.f229,go_sem,t6,hcc]
 exact⟨by simp,.inl ⟨D,_,rfl,run_takeDeferred hD,⟨_,hr,hQ⟩⟩⟩
theorem YfZ (T:Ts)(hWA:YcY T)(hok:T.ok)(p0 p1 p2 p3 l B0:Nat)(o en:ByteArray)(d:Bool)(v:Value)(J:List ByteArray->(Nat->Prop)->World->Prop)(F:Nat->Prop)(W:World)(all pre post:List ByteArray)
 (hall:all=pre++(Yad en o d T.wordsB++post))(hB:B0<=W.heap.size)(hJ:∀s F,Stab B0 F (J s F))(hY:YoI l J B0 all)(hF:∀k,F k->k<W.heap.size)(c0:W.cell? ⟨p0,0,none⟩=some (.string o))(c1:W.cell? ⟨p1,0,none⟩=some v)(c2:W.cell? ⟨p2,0,none⟩=some (.string en))(c3:W.cell? ⟨p3,0,none⟩=some (.bool d))(hq:¬F p2)
 (hT:TsV W (fun k=>k<W.heap.size/\¬F k) v T)(h0:J pre F W)(hen:en.size<=10000000)(ho:o.size<=10000000):
 Calls Tryz.prog 229 #[yV l,.pointer (some ⟨p0,0,none⟩),.pointer (some ⟨p3,0,none⟩),.pointer (some ⟨p1,0,none⟩),.pointer (some ⟨p2,0,none⟩)] W (ArQ J (pre++Yad en o d T.wordsB) F W):=by
 obtain⟨ao,cap,rfl⟩:=hT.form;have C2:=Zh c2;have hq0:p0<W.heap.size:=World.block_lt_of_cell? W _ c0;have hq1:p1<W.heap.size:=World.block_lt_of_cell? W _ c1;have hq2:p2<W.heap.size:=World.block_lt_of_cell? W _ c2;have hq3:p3<W.heap.size:=World.block_lt_of_cell? W _ c3;have hr1:p3<W.heap.size+1:=Zo;have hr2:p3<W.heap.size+1+1:=Zo;have hs1:p1<W.heap.size+1:=Zo;have hs2:p1<W.heap.size+1+1:=Zo;have hs3:p1<W.heap.size+1+1+1:=Zo;have HY:Hid _:=hY;have HJ:Hid _:=hJ;have HF:Hid _:=hF;have HQ:Hid _:=hq;have HT:=Zh hT;have H0:=Zh h0;have HALL:=Zh hall;have HL:=Zh (YhK hok);have HWA:Hid _:=hWA;clear hY hJ hF hq hT h0 hall c2 hWA;have hFn:∀f,Fence.wide.fn f:=fun _=>trivial;unfold yV at*;refine callsIn_wide.1 (callsIn_of_wp_marks (n:=6) Tryz.func229 rfl trivial ?_);simp only[Tryz.ntmps229,List.size_toArray,List.length_cons,List.length_nil,Nat.reduceAdd,Nat.reduceSub,Array.replicate_succ,Array.replicate_zero,List.push_toArray,List.append_toArray,List.nil_append,List.cons_append];gi_wp2_with fail
 refine(callsIn_wide.2 (YgJ _ _ _ _)).mono ?_;rintro e w2 ⟨rfl,rfl⟩;gi_wp2_with fail
 obtain⟨W5,hW5⟩:∃W5,W5=((((W.alloc (.cells #[.func (.yield l) #[] #[]] 48)).alloc (.cells #[.bool false] 4)).alloc (.cells #[.string o] 9)).alloc (.cells #[.bool d] 4)).alloc (.cells #[.slice ao T.len cap] 35):=⟨_,rfl⟩;obtain⟨n0,n1,n2,n3,n4,hb5,hz5⟩:=YoB W _ _ _ _ _ _ _ _ _ _ W5 hW5;rw[<-hW5];clear hW5;have hcl:W5.cell? ⟨W.heap.size+4,0,none⟩=some (.slice ao T.len cap):=by simp[World.cell?,n4]
 have hT5:TsV W5 (fun k=>k<W5.heap.size/\¬(F k\/k=W.heap.size+2\/k=W.heap.size+3)) (.slice ao T.len cap) T:=HT.out.keep (fun k q _=>hb5.block k q.1) (fun k q hk=>⟨by omega,fun e=>by rcases e with e | e | e<;>first | exact q.2 e | omega⟩);have hF4:¬(F (W.heap.size+4)\/W.heap.size+4=W.heap.size+2\/W.heap.size+4=W.heap.size+3):=fun e=>by rcases e with e | e | e<;>first | (have:=HF.out _ e; omega) | omega
 have hsq:=YcY.seq (F0:=fun k=>F k\/k=W.heap.size+2\/k=W.heap.size+3) HWA.out hok (lb:=W.heap.size+4) Zo hF4 hcl hT5;have hI0:ArI l J pre o d F W [] (fun k=>F k\/k=W.heap.size+2\/k=W.heap.size+3) W5:=⟨⟨F,by
  rw[YlU,List.append_nil]; exact HJ.out _ F W W5 H0.out (Keep.of_below hb5),⟨Keep.of_below hb5,fun _ e=>.inl e,fun k e=>by have:=HF.out _ e; omega⟩,fun k=>Iff.rfl,fun k e=>.inl (HF.out _ e)⟩,n0,n1,n2,n3⟩
 have hF5:∀k,(F k\/k=W.heap.size+2\/k=W.heap.size+3)->k<W5.heap.size:=fun k e=>by rcases e with e | e | e<;>first | (have:=HF.out _ e; omega) | omega
 have hst:∀(s:List ByteArray) (F2:Nat->Prop),Stab W5.heap.size F2 (ArI l J pre o d F W s F2):=fun s F2=>by rw[hz5]; exact ArI.stab HJ.out hB
 have HSQ:Hid _:=hsq;have HI0:Hid _:=hI0;have HF5:Hid _:=hF5;have HST:Hid _:=hst;have HZ5:=Zh hz5;clear n0 n1 n2 n3 n4 hcl hT5 hF4 hsq hI0 hF5 hst c0 c1 c3 hb5 hz5;refine wpIn_wide.2 ?_;refine YgI (gf:=198) (lb:=#[.pointer (some ⟨W.heap.size+4,0,none⟩)]) rfl (enters_of Tryz.func198 (by kernel_rfl) rfl) HSQ.out (fun _=>rfl) (ArI l J pre o d F W) HF5.out HST.out HI0.out
  (fun x=>{ tmps:=#[.func (.yield l) #[] #[],.pointer (some ⟨p0,0,none⟩),.pointer (some ⟨p3,0,none⟩),.pointer (some ⟨p1,0,none⟩),.pointer (some ⟨p2,0,none⟩),.pointer (some ⟨W.heap.size,0,none⟩),.pointer (some ⟨W.heap.size+1,0,none⟩),.pointer (some ⟨W.heap.size+1+1,0,none⟩),.pointer (some ⟨W.heap.size+1+1+1,0,none⟩),.string x,.string o,.bool d,.slice ao T.len cap,.func (.func 198) #[] #[.pointer (some ⟨W.heap.size+1+1+1+1,0,none⟩)],.string x,undef,undef,undef,undef,undef,undef,undef,undef,undef,undef,undef,undef,undef,undef],defers:=[] })
  ?assign ?body ?done
 case assign=>
  intro l2 x X K hK;have hFn:∀f,(Fence.wide.inRound l2).fn f:=fun _=>trivial;unfold YhM;gi_wp2
  simpa using hK
 case body=>
  intro l2 q x r F2 X hxs hXz hF2 hI;have hX7:W.heap.size+7<=X.heap.size:=by have:=HZ5.out; omega
  have v0:X.cell? ⟨W.heap.size,0,none⟩=some (.func (.yield l) #[] #[]):=by have:=hI.b0; unfold yV at this; simp[World.cell?,this]
  have v2:X.cell? ⟨W.heap.size+1+1,0,none⟩=some (.string (YU o d q).last):=by simp[World.cell?,hI.b2]
  have v3:X.cell? ⟨W.heap.size+1+1+1,0,none⟩=some (.bool (YU o d q).joined):=by simp[World.cell?,hI.b3]
  have f2:X.frozen? ⟨W.heap.size+1+1,0,none⟩=false:=by simp[World.frozen?,hI.b2]
  have f3:X.frozen? ⟨W.heap.size+1+1+1,0,none⟩=false:=by simp[World.frozen?,hI.b3]
  have hqs:∀y∈q,y.size<=10000000:=fun y hy=>HL.out y (by rw[hxs]; simp[hy]);have hxz:x.size<=10000000:=HL.out x (by rw[hxs]; simp);have hls:=(Yf1 (d:=d) ho q hqs).1;have hFn:∀f,(Fence.wide.inRound l2).fn f:=fun _=>trivial;cases hj:(YU o d q).joined with
  |
   true=>
   have HN:=Zh (ArI.joined (x:=x) HJ.out hB hI hj hF2);rw[hj] at v3;clear hj hI hqs;generalize(YU o d q).last=L at*;gi_wp2
   exact⟨F2,HN.out.1,HN.out.2⟩
  |
   false=>
   obtain⟨F',h1,h2,h3,h4⟩:=hI.ex;obtain⟨z,hz⟩:=YlT en o d (q++[x]) r;have ha:all=(pre++(YU o d q).out)++(YU o d q).last::(z++post):=by
    rw[HALL.out,hxs,show q++x::r=q++[x]++r by simp,hz,(Yi5 (x:=x) hj).1]; simp
   obtain⟨fn,tm,as',bd,hy,hRd⟩:=HY.out _ _ _ F' X ha Zo (fun k e=>hF2 k ((h3 k).2 (.inl e))) h1;simp only[YhM] at hy;have HRd:=Zh hRd;have HE:=Zh (fun(Fn:Nat->Prop) (Y:World) (hJ':J (pre++(YU o d q).out++[(YU o d q).last]) Fn Y) (hG:Grow F' Fn X Y)=>ArI.emit (x:=x) HJ.out hB hI.b0 hI.b1 hI.b2 hI.b3 h2 h3 h4 hX7 hj hJ' hG);have HNF:Hid (∀k,W.heap.size<=k->k<W.heap.size+7->¬F' k):=Zh (fun k e1 e2 f=>by have:=h4 k f; omega);have HB2:=Zh hI.b2;rw[hj] at v3;clear hRd hj hI hqs h1 h2 h3 h4 hz ha;generalize(YU o d q).last=L at*;generalize(YU o d q).out=O at*;gi_wp2
   refine(Ymt l2 HRd.out).mono ?_;rintro e Y ⟨rfl,Fn,hJ',hG⟩;have hc2:=(hG.keep.block _ Zo (HNF.out _ Zo Zo)).trans HB2.out;have u2:Y.cell? ⟨W.heap.size+1+1,0,none⟩=some (.string L):=by simp[World.cell?,hc2]
   have g2:Y.frozen? ⟨W.heap.size+1+1,0,none⟩=false:=by simp[World.frozen?,hc2]
   have HN:=Zh (HE.out Fn Y hJ' hG);clear hJ' hG hc2 HE HRd v0 v2 v3 f2 f3;gi_wp2
   exact HN.out
 case done=>
  intro F2 X hI hG hD hXz hne;have hX7:W.heap.size+7<=X.heap.size:=by have:=HZ5.out; omega
  have v0:X.cell? ⟨W.heap.size,0,none⟩=some (.func (.yield l) #[] #[]):=by have:=hI.b0; unfold yV at this; simp[World.cell?,this]
  have v2:X.cell? ⟨W.heap.size+1+1,0,none⟩=some (.string (YU o d T.wordsB).last):=by simp[World.cell?,hI.b2]
  have hls:=(Yf1 (d:=d) ho T.wordsB HL.out).1;obtain⟨F',h1,h2,h3,h4⟩:=hI.ex;have ve:X.cell? ⟨p2,0,none⟩=some (.string en):=(h2.keep.cell (p:=⟨p2,0,none⟩) hq2 HQ.out).trans C2.out;have ha:all=(pre++(YU o d T.wordsB).out)++((YU o d T.wordsB).last++en)::post:=by
   rw[HALL.out]; unfold Yad; simp
  have hF'X:∀k,F' k->k<X.heap.size:=h2.lt;obtain⟨fn,tm,as',bd,hy,hRd⟩:=HY.out _ _ _ F' X ha Zo hF'X h1;simp only[YhM] at hy;have HRd:=Zh hRd;have HH2:=Zh h2;have HB1:=Zh hI.b1;have hz5:=HZ5.out;rw[hz5] at hD hne⊢;have HD:=Zh hD;have HNF:Hid (∀k,W.heap.size<=k->k<W.heap.size+7->¬F' k):=Zh (fun k e1 e2 f=>by have:=h4 k f; omega);clear hRd hI h1 h2 h3 h4 ha hF'X hG hD hne;have HAR:Hid (pre++Yad en o d T.wordsB=pre++(YU o d T.wordsB).out++[(YU o d T.wordsB).last++en]):=Zh (by unfold Yad; simp);generalize(YU o d T.wordsB).last=L at*;generalize(YU o d T.wordsB).out=O at*;dsimp only;gi_wp2_with fail
  refine(Ycp HRd.out).mono ?_;rintro e Y ⟨rfl,Fn,hJ',hG⟩;have hc1:=(hG.keep.block _ Zo (HNF.out _ Zo Zo)).trans HB1.out;have hcD:=(hG.keep.block _ Zo (HNF.out _ Zo Zo)).trans HD.out;have u1:Y.cell? ⟨W.heap.size+1,0,none⟩=some (.bool false):=by simp[World.cell?,hc1]
  have g1:Y.frozen? ⟨W.heap.size+1,0,none⟩=false:=by simp[World.frozen?,hc1]
  have K1:=Keep.of_setCell Y ⟨W.heap.size+1,0,none⟩ (.bool true);have hb1:=Yks hc1 (.bool true);have hbD:=(K1.block _ (Zg hcD).1 (by show ¬W.heap.size+5=W.heap.size+1; omega)).trans hcD;have hFn9:∀k,Fn k->k<W.heap.size\/W.heap.size+7<=k:=fun k e=>by
   rcases hG.sub k e with e | e
   ·by_cases hk:k<W.heap.size
    ·exact .inl hk
    ·by_cases hk2:k<W.heap.size+7
     ·exact absurd e (HNF.out k Zo hk2)
     ·exact .inr Zo
   ·exact .inr Zo
  have K2:=JF (Y.setCell ⟨W.heap.size+1,0,none⟩ (.bool true)) (W.heap.size+5) (.deferred none);have hfin:ArQ J (pre++Yad en o d T.wordsB) F W (.returned (.bool true)) ((Y.setCell ⟨W.heap.size+1,0,none⟩ (.bool true)).putObj (W.heap.size+5) (.deferred none)):=by
   refine⟨rfl,Fn,?_,((HH2.out.trans hG).then K1 (fun i hi e=>by have e:i=W.heap.size+1:=e; omega)).then K2 (fun i hi e=>by have e:i=W.heap.size+5:=e; omega)⟩;rw[HAR.out];refine HJ.out _ Fn _ _ (HJ.out _ Fn _ _ hJ' (K1.mono fun i _ e=>?_)) (K2.mono fun i _ e=>?_)
   ·have e:i=W.heap.size+1:=e;exact⟨by omega,fun f=>by have:=hFn9 _ f; omega⟩
   ·have e:i=W.heap.size+5:=e;exact⟨by omega,fun f=>by have:=hFn9 _ f; omega⟩
  have HFI:=Zh hfin;have HB9:=Zh hb1;have HD9:=Zh hbD;clear hfin hb1 hbD K1 K2 hJ' hG hc1 hcD hFn9 HRd HH2 HAR HALL v0 v2 ve;gi_wp2
  exact YmL rfl HB9.out HD9.out Zo HFI.out
end
section
open Go.RowKit Go.Shelf
attribute [local go_sem] Oper.semAt_some
theorem Ts.take_at {w:World}{S:Nat->Prop}:∀(n:Nat) (l:Ts) (b off:Nat),l.at w S b off->(l.takeN n).at w S b off
 |0,l,_,_,_=>by cases l<;>exact trivial
 |n+1,.nil,_,_,_=>trivial
 |n+1,.cons k t kids rest,b,off,⟨h0,h1,h2,h3⟩=>⟨h0,h1,h2,Ts.take_at n rest b (off+3) h3⟩
theorem Ts.drop_at {w:World}{S:Nat->Prop}:∀(n:Nat) (l:Ts) (b off:Nat),l.at w S b off->(l.dropN n).at w S b (off+n*3)
 |0,l,b,off,h=>by simpa[Ts.dropN] using h
 |n+1,.nil,_,_,_=>trivial
 |
  n+1,.cons k t kids rest,b,off,⟨h0,h1,h2,h3⟩=>by
  have:=Ts.drop_at n rest b (off+3) h3;rw[show off+(n+1)*3=off+3+n*3 by omega];exact this
theorem TsV.part {w w':World}{S:Nat->Prop}{g off cap N:Nat}{R:Ts}(hS:S g)(hat:R.at w S g off)(hN:N<=R.len)(hc:N<=cap)(hk:∀k,S k->k<w.heap.size->w'.heap[k]? =w.heap[k]?):TsV w' (fun _=>True) (.slice (some ⟨g,off,none⟩) N cap) (R.takeN N):=by
 have hl:=Ts.take_len N R hN;refine⟨some ⟨g,off,none⟩,cap,by rw[hl],fun _=>⟨g,off,rfl,trivial,Ts.at_keep _ g off (.inl hS) (Ts.take_at N R g off hat) hk (fun _ _ _=>trivial),by rw[hl]; exact hc⟩⟩
theorem Yld (a k N:Nat)(x:Int)(hx:x=(k:Int)+(N:Int))(h:a - (k+N)<a - k):a - (intOf (Value.int .i64 x)).toNat<a - (intOf (Value.int .i64 (k:Int))).toNat:=by
 have e1:(intOf (Value.int .i64 x)).toNat=k+N:=by rw[hx]; simp only[intOf]; omega
 have e2:(intOf (Value.int .i64 (k:Int))).toNat=k:=by simp only[intOf]; omega
 rw[e1,e2];exact h
theorem YgH (x:Int)(h0:0<=x)(h1:x<=1000000000000):wrap64 x=x:=by
 unfold wrap64;omega
structure WdS (T:Ts)(ao:Option Addr)(cap lb:Nat)(J:List ByteArray->(Nat->Prop)->World->Prop)(pre:List ByteArray)(F:Nat->Prop)(W wr:World)(k:Nat)(rest:Ts)(done:List ByteArray)(F1:Nat->Prop):Prop where
 len:k+rest.len=T.len
 tail:rest≠.nil->∃g o,ao=some ⟨g,o,none⟩/\g<wr.heap.size/\¬F1 g/\rest.at wr (fun k=>k<wr.heap.size/\¬F1 k) g (o+k*3)/\T.len<=cap
 words:done++rest.wordsB=T.wordsB
 nodes:rest.nodes<=T.nodes
 ok:rest.ok
 j:J (pre++done) F1 wr
 grow:Grow F F1 W wr
 cell:wr.cell? ⟨lb,0,none⟩=some (.slice ao T.len cap)
 nlb:¬F1 lb
section
variable {T rest:Ts}{g o cap lb:Nat}{J:List ByteArray->(Nat->Prop)->World->Prop}{pre:List ByteArray}{F F1 F2:Nat->Prop}{W wr w2:World}{k:Nat}{done out:List ByteArray}
theorem WdS.next (h:WdS T (some ⟨g,o,none⟩) cap lb J pre F W wr k rest done F1)(hne:rest≠.nil)(n:Nat)(hn:n<=rest.len)(hout:rest.wordsB=out++(rest.dropN n).wordsB)(hj:J (pre++done++out) F2 w2)(hG:Grow F1 F2 wr w2):
 WdS T (some ⟨g,o,none⟩) cap lb J pre F W w2 (k+n) (rest.dropN n) (done++out) F2:=by
 obtain⟨h1,h2,h3,h4,h5,h6,h7,h8,h9⟩:=h;obtain⟨g',o',e,hg,hF1,hat,hcap⟩:=h2 hne;cases e;have hlb:=World.block_lt_of_cell? wr _ h8;have hnew:∀k,(k<wr.heap.size/\¬F1 k)->(k<w2.heap.size/\¬F2 k):=fun k q=>⟨Nat.lt_of_lt_of_le q.1 hG.keep.size,fun e=>(hG.sub k e).elim q.2 (fun e=>by omega)⟩;refine⟨by have:=Ts.drop_len n rest hn; omega,fun _=>⟨g,o,rfl,(hnew g ⟨hg,hF1⟩).1,(hnew g ⟨hg,hF1⟩).2,?_,hcap⟩,?_,Nat.le_trans (Ts.drop_nodes n rest) h4,h5.drop n,?_,h7.trans hG,(hG.keep.cell (p:=⟨lb,0,none⟩) hlb h9).trans h8,(hnew lb ⟨hlb,h9⟩).2⟩
 ·have:=Ts.drop_at n rest g (o+k*3) hat;rw[show o+(k+n)*3=o+k*3+n*3 by omega];exact Ts.at_keep _ g _ (.inl ⟨hg,hF1⟩) this (fun i q _=>hG.keep.block i q.1 q.2) (fun i q _=>hnew i q)
 ·rw[<-h3,hout,List.append_assoc]
 ·rw[<-List.append_assoc]; exact hj
end
def WdQ (J:List ByteArray->(Nat->Prop)->World->Prop)(s:List ByteArray)(F:Nat->Prop)(W:World)(e:Ending)(W':World):Prop:=(∃v,e= .returned v)/\∃F',J s F' W'/\Grow F F' W W'
theorem YjS:∀(m:Nat) (T:Ts),T.nodes<m->YcY T:=by
 intro m;induction m with
 |zero=>intro T hm; omega
 |
  succ m ih=>
  intro T hm lb l B0 v J F W all pre post hall hok hB hJ hY hF hlb hnl hc hT h0;show Calls Tryz.prog 198 #[yV l,.pointer (some ⟨lb,0,none⟩)] W (WdQ J (pre++T.wordsB) F W);obtain⟨ao,cap,rfl,htail⟩:=hT;have IH:Hid _:=ih;have HY:Hid _:=hY;have HJ:Hid _:=hJ;have HALL:=Zh hall;have hTl:=Ts.len_le T;have hT4:=hok.nodes;have hS0:Hid (WdS T ao cap lb J pre F W W 0 T [] F):=Zh ⟨Nat.zero_add _,fun hn=>by obtain⟨g,o,e,h1,h2,h3⟩:=htail hn; exact⟨g,o,e,h1.1,h1.2,by simpa using h2,h3⟩,rfl,Nat.le_refl _,hok,by simpa using h0,Grow.refl hF,hc,hnl⟩;have hFn:∀f,Fence.wide.fn f:=fun _=>trivial;unfold yV;clear ih hY hJ hall htail h0 hc hnl hF;go_enter Tryz.func198,Tryz.ntmps198;go_wp2;go_loopw [3] (fun i wr=>∃(k:Nat) (rest:Ts) (done:List ByteArray) (F1:Nat->Prop),i= .int .i64 k/\Hid (WdS T ao cap lb J pre F W wr k rest done F1)) (fun i _=>T.len - (intOf i).toNat)
  case atStart=>exact⟨0,T,[],F,rfl,hS0⟩
  case round=>
   obtain⟨k,rest,done,F1,rfl,HS⟩:=hrel;clear hS0;have lc:=HS.out.cell;have hWz:=HS.out.grow.keep.size;have hlw:lb<wr.heap.size:=Zo;by_cases hn:rest= .nil
   ·have hk:k=T.len:=by have:=HS.out.len; rw[hn] at this; simpa[Ts.len] using this
    have HD:Hid (done=T.wordsB):=Zh (by have:=HS.out.words; rw[hn] at this; simpa[Ts.wordsB,Ts.words] using this);have l0:decide ((k:Int)<(T.len:Int))=false:=Zf;have l1:decide (k<T.len)=false:=Zf;clear hk hn;go_wp2;go_end0
    exact⟨⟨_,rfl⟩,F1,by rw[<-HD.out]; exact HS.out.j,HS.out.grow⟩
   ·obtain⟨g,o,rfl,hgw,hFg,hat,hcap⟩:=HS.out.tail hn;have hkl:=HS.out.len;have hrl:rest.len≠0:=fun q=>hn ((Ts.len_zero rest).1 q);have l0:decide ((k:Int)<(T.len:Int))=true:=Zt;have l1:decide (k<T.len)=true:=Zt;have hkp:k<T.len:=Zo;have hck:¬cap=k:=Zo;have hkT:k<=T.len:=Zo;have hTR:TsV wr (fun k=>k<wr.heap.size/\¬F1 k) (.slice (some ⟨g,o+k*3,none⟩) rest.len (cap - k)) rest:=⟨_,_,rfl,fun _=>⟨g,o+k*3,rfl,⟨hgw,hFg⟩,hat,by omega⟩⟩;have HAT:=Zh hat;have HTR:=Zh hTR;have HN:=Zh hn;have HKL:=Zh hkl;clear hat hTR hn hkl hrl;refine(wpIn_wide (n:=5)).1 ?_;gi_wp2_with fail
    rw[show T.len - k=rest.len by have:=HKL.out; omega];refine(callsIn_wide.2 (Yms (fun k=>k<wr.heap.size/\¬F1 k) rest _ wr HTR.out (by have:=Ts.len_le rest; have:=HS.out.nodes; omega))).mono ?_;rintro e w' ⟨rfl,hw'⟩;obtain rfl:wr=w':=hw'.symm;cases rest with
    |nil=>exact absurd rfl HN.out
    |
     cons kk tt kids rest=>
     obtain⟨c0,c1,⟨ao2,cap2,c2,hkids⟩,hrest⟩:=HAT.out;have hcnt:=HS.out.nodes;simp only[Ts.nodes] at hcnt;have HKI:=Zh hkids;have HRE:=Zh hrest;have hrun:=Ts.run_le (.cons kk tt kids rest);obtain⟨N,HPN⟩:∃N,Hid (N=(Ts.cons kk tt kids rest).part):=⟨_,Zh rfl⟩;have hNle:N<=(Ts.cons kk tt kids rest).len:=by rw[HPN.out]; unfold Ts.part; simp only[Ts.len] at hrun⊢; omega
     have hN1:1<=N:=by rw[HPN.out]; unfold Ts.part; omega
     have hkl9:=HKL.out;have hNc:N<=cap - k:=by clear hrun; omega
     have hkN:T.len - (k+N)<T.len - k:=by clear hrun; omega
     have hmx:max ((Ts.cons kk tt kids rest).run:Int) 1=(N:Int):=by rw[HPN.out]; unfold Ts.part; omega
     have q1:(0:Int)<=(k:Int)+(N:Int):=Zo;have q2:(k:Int)+(N:Int)<=(cap:Int):=Zo;have q3:((k:Int)+(N:Int)).toNat=k+N:=Zo;have q4:k<=k+N:=Zo;have q5:wrap64 ((k:Int)+(N:Int))=(k:Int)+(N:Int):=YgH _ Zo Zo;have HNL:=Zh hNle;have HQ:=Zh (And.intro hmx (And.intro q1 (And.intro q2 (And.intro q3 (And.intro q4 q5)))));clear hmx q1 q2 q3 q4 q5;generalize(Ts.cons kk tt kids rest).run=R at HQ;clear hkids hrest hrun hkl9 hNle;obtain⟨V0,hV0⟩:∃V0,V0=wr.alloc (.cells #[.int .i64 kk,.string tt,.slice ao2 kids.len cap2] 223):=⟨_,rfl⟩;have hT0:V0.heap[wr.heap.size]? =some (.cells #[.int .i64 kk,.string tt,.slice ao2 kids.len cap2] 223 (0,0)):=by rw[hV0]; exact heap_alloc_new _ _
     have hbV:Below wr.heap.size wr V0:=by rw[hV0]; exact below_alloc1 _ _
     have HZV:=Zh (show V0.heap.size=wr.heap.size+1 by rw[hV0]; simp);have HV0:=Zh hV0;have HBV:=Zh hbV;have HT0:=Zh hT0;have HFL:=Zh HS.out.grow.lt;have hok9:=HS.out.ok;clear hV0 hbV hT0;by_cases hk4:kk=4
     ·subst hk4;have HOKK:=Zh (Ts.ok.kids hok9);have HN1:Hid (N=1):=Zh (by rw[HPN.out]; unfold Ts.part; simp[Ts.run]);have hkn:kids.nodes<m:=Zo;have HWA:=Zh (IH.out kids hkn);clear hok9;obtain⟨hmx,q1,q2,q3,q4,q5⟩:=HQ.out;gi_wp2_with fail
      clear hmx q1 q2 q3 q4 q5;rw[<-HV0.out];refine(callsIn_wide.2 (YfY ⟨#[40]⟩ ⟨#[41]⟩ true ao2 kids.len cap2 V0)).mono ?_;rintro e w2 ⟨rfl,hbx,hb2,hz2⟩;have hzv:=HZV.out;have hb9:Below wr.heap.size wr w2:=HBV.out.trans (hb2.mono Zo);obtain⟨x0,x1,x2,x3⟩:=hbx;have hJ2:J (pre++done) F1 w2:=HJ.out _ F1 wr w2 HS.out.j (Keep.of_below hb9);have hkv:TsV w2 (fun k=>k<w2.heap.size/\¬F1 k) (.slice ao2 kids.len cap2) kids:=TsV.keep (w:=wr) (S:=fun k=>k<wr.heap.size/\¬F1 k) ⟨ao2,cap2,rfl,HKI.out⟩ (fun i q _=>hb9.block i q.1) (fun i q _=>⟨by omega,q.2⟩);have ha:all=(pre++done)++(Yad ⟨#[41]⟩ ⟨#[40]⟩ true kids.wordsB++(rest.wordsB++post)):=by
       have h1:=HALL.out;rw[<-HS.out.words,YeV] at h1;rw[h1]; simp
      have hAR:=YfZ kids HWA.out HOKK.out V0.heap.size (V0.heap.size+1) (V0.heap.size+2) (V0.heap.size+3) l B0 ⟨#[40]⟩ ⟨#[41]⟩ true (.slice ao2 kids.len cap2) J F1 w2 all (pre++done) (rest.wordsB++post) ha Zo HJ.out HY.out (fun k e=>by have:=HFL.out k e; omega)
       (by simp[World.cell?,x0]) (by simp[World.cell?,x1]) (by simp[World.cell?,x2]) (by simp[World.cell?,x3]) (fun e=>by have:=HFL.out _ e; omega) hkv hJ2 Zd Zd
      have HAR:=Zh hAR;have HB9:=Zh hb9;clear hAR ha hJ2 hb9 hb2 hkv x0 x1 x2 x3 hzv;unfold ardV;unfold yV at HAR;gi_wp2_with fail
      refine(callsIn_wide.2 HAR.out).mono ?_;rintro e w3 ⟨rfl,F2,hJ3,hG3⟩;have HN9:=Zh (HS.out.next (F2:=F2) (w2:=w3) HN.out N HNL.out (out:=Yad ⟨#[41]⟩ ⟨#[40]⟩ true kids.wordsB) (by rw[HN1.out,YeV]; rfl) hJ3 (Grow.after (Keep.of_below HB9.out) hG3));clear hJ3 hG3 HAR;gi_wp2_with fail
      go_roundw
      case rel=>exact⟨k+N,_,_,F2,congrArg (Value.int .i64) (HQ.out.2.2.2.2.2.trans Zo),HN9⟩
      case measure=>exact Yld _ _ _ _ HQ.out.2.2.2.2.2 hkN
     by_cases hk8:kk=8
     ·subst hk8;have HOKK:=Zh (Ts.ok.kids hok9);have HN1:Hid (N=1):=Zh (by rw[HPN.out]; unfold Ts.part; simp[Ts.run]);have hkn:kids.nodes<m:=Zo;have HWA:=Zh (IH.out kids hkn);have hts:=Yap (Ts.ok.one hok9).1;have p9:tt.size<=1000000:=Zo;obtain⟨O8,HO8⟩:∃O8:ByteArray,Hid (O8=(⟨#[60]⟩:ByteArray)++tt):=⟨_,Zh rfl⟩;have HO8z:Hid (O8.size<=10000000):=Zh (by rw[HO8.out,ByteArray.size_append]; show 1+_<=_; omega);clear hok9 hts;obtain⟨hmx,q1,q2,q3,q4,q5⟩:=HQ.out;gi_wp2_with fail
      clear hmx q1 q2 q3 q4 q5;rw[<-HV0.out,<-HO8.out];refine(callsIn_wide.2 (YfY O8 ⟨#[62]⟩ false ao2 kids.len cap2 V0)).mono ?_;rintro e w2 ⟨rfl,hbx,hb2,hz2⟩;have hzv:=HZV.out;have hb9:Below wr.heap.size wr w2:=HBV.out.trans (hb2.mono Zo);obtain⟨x0,x1,x2,x3⟩:=hbx;have hJ2:J (pre++done) F1 w2:=HJ.out _ F1 wr w2 HS.out.j (Keep.of_below hb9);have hkv:TsV w2 (fun k=>k<w2.heap.size/\¬F1 k) (.slice ao2 kids.len cap2) kids:=TsV.keep (w:=wr) (S:=fun k=>k<wr.heap.size/\¬F1 k) ⟨ao2,cap2,rfl,HKI.out⟩ (fun i q _=>hb9.block i q.1) (fun i q _=>⟨by omega,q.2⟩);have ha:all=(pre++done)++(Yad ⟨#[62]⟩ O8 false kids.wordsB++(rest.wordsB++post)):=by
       have h1:=HALL.out;rw[<-HS.out.words,YfV,<-HO8.out] at h1;rw[h1]; simp
      have hAR:=YfZ kids HWA.out HOKK.out V0.heap.size (V0.heap.size+1) (V0.heap.size+2) (V0.heap.size+3) l B0 O8 ⟨#[62]⟩ false (.slice ao2 kids.len cap2) J F1 w2 all (pre++done) (rest.wordsB++post) ha Zo HJ.out HY.out (fun k e=>by have:=HFL.out k e; omega)
       (by simp[World.cell?,x0]) (by simp[World.cell?,x1]) (by simp[World.cell?,x2]) (by simp[World.cell?,x3]) (fun e=>by have:=HFL.out _ e; omega) hkv hJ2 Zd HO8z.out
      have HAR:=Zh hAR;have HB9:=Zh hb9;clear hAR ha hJ2 hb9 hb2 hkv x0 x1 x2 x3 hzv;unfold ardV;unfold yV at HAR;gi_wp2_with fail
      refine(callsIn_wide.2 HAR.out).mono ?_;rintro e w3 ⟨rfl,F2,hJ3,hG3⟩;have HN9:=Zh (HS.out.next (F2:=F2) (w2:=w3) HN.out N HNL.out (out:=Yad ⟨#[62]⟩ O8 false kids.wordsB) (by rw[HN1.out,YfV,<-HO8.out]; rfl) hJ3 (Grow.after (Keep.of_below HB9.out) hG3));clear hJ3 hG3 HAR;gi_wp2_with fail
      go_roundw
      case rel=>exact⟨k+N,_,_,F2,congrArg (Value.int .i64) (HQ.out.2.2.2.2.2.trans Zo),HN9⟩
      case measure=>exact Yld _ _ _ _ HQ.out.2.2.2.2.2 hkN
     have b4:(kk==4)=false:=by simpa using hk4
     have b8:(kk==8)=false:=by simpa using hk8
     have HTL:=Zh (YmB hk4 hk8 hok9);have HPW:=Zh (Yju (t:=tt) (kids:=kids) (rest:=rest) hk4 hk8);have HOKN:=Zh (hok9.take N);have hTP:TsV V0 (fun _=>True) (.slice (some ⟨g,o+k*3,none⟩) N (cap - k)) ((Ts.cons kk tt kids rest).takeN N):=TsV.part (w:=wr) (S:=fun k=>k<wr.heap.size/\¬F1 k) ⟨hgw,hFg⟩ HAT.out HNL.out hNc (fun i q _=>HBV.out.block i q.1);rw[<-HPN.out] at HTL HPW;have HTX:=Zh (Yob _ _ V0 hTP HOKN.out HTL.out);obtain⟨s,HSS⟩:∃s,Hid (s=Ydn ((Ts.cons kk tt kids rest).takeN N)):=⟨_,Zh rfl⟩;rw[<-HSS.out] at HTX HPW;clear hk4 hk8 hTP hok9;obtain⟨hmx,q1,q2,q3,q4,q5⟩:=HQ.out;gi_wp2_with fail
     clear hmx q1 q2 q3 q4 q5;rw[<-HV0.out];refine(callsIn_wide.2 HTX.out).mono ?_;rintro e w2 ⟨rfl,hb2⟩;have hb9:Below wr.heap.size wr w2:=HBV.out.trans (hb2.mono (by have:=HZV.out; omega));have hJ2:J (pre++done) F1 w2:=HJ.out _ F1 wr w2 HS.out.j (Keep.of_below hb9);have ha:all=(pre++done)++s::(((Ts.cons kk tt kids rest).dropN N).wordsB++post):=by
      have h1:=HALL.out;rw[<-HS.out.words,HPW.out] at h1;rw[h1]; simp
     obtain⟨fn,tm,as',bd,hy,hRd⟩:=HY.out (pre++done) s _ F1 w2 ha (by have:=hb9.size; omega) (fun k e=>Nat.lt_of_lt_of_le (HFL.out k e) hb9.size) hJ2;simp only[YhM] at hy;have HRd:=Zh hRd;have HB9:=Zh hb9;clear hRd ha hJ2 hb9 hb2 HTX;gi_wp2
     refine(Ycp HRd.out).mono ?_;rintro e w3 ⟨rfl,F2,hJ3,hG3⟩;have HN9:=Zh (HS.out.next (F2:=F2) (w2:=w3) HN.out N HNL.out (out:=[s]) (by rw[HPW.out]; rfl) hJ3 (Grow.after (Keep.of_below HB9.out) hG3));clear hJ3 hG3 HRd;gi_wp2_with fail
     go_roundw
     case rel=>exact⟨k+N,_,_,F2,congrArg (Value.int .i64) (HQ.out.2.2.2.2.2.trans Zo),HN9⟩
     case measure=>exact Yld _ _ _ _ HQ.out.2.2.2.2.2 hkN
end
section
open Go.RowKit Go.Shelf
attribute [local go_sem] Oper.semAt_some
theorem Yl3 (T:Ts):YcY T:=YjS (T.nodes+1) T Zo
theorem Yd3:SlTy Tryz.prog 23 9 1 16:=Ydt (z:=.string ⟨#[]⟩) Tryz.underlying23 (by kernel_rfl) rfl Zd
theorem Yf3 {F:Fence}{n0:Nat}{P:Program}{w:World}{ops:Array Oper}{rest:List Oper}{o:Oper}{a:Act}{Q:Exit->Act->World->Prop}
 (hgd:o.guard=none)(s x:Operand)(t:TypeId)(ho:o.op= .call { callee:=.builtin .append,args:=#[s,x],argTypes:=#[t,t] })(B:Nat)(e:TypeId)(size bytes:Nat)(hT:SlTy P t e size bytes)
 (v:Value)(n:Nat)(xs:List Value)(hs:a.eval s=v)(hown:w.ownsRow B e size v n xs)(ad:Addr)(m c:Nat)(news:List Value)(hx:a.eval x= .slice (some ad) m c)(hl:news.length=m*size)(hnews:∀j u,news[j]? =some u->w.cell? (ad.add j)=some u)
 (h1:∀u∈news,u.oneCell'=true)(h63:n+m<=maxLen)(hbytes:(n+m)*bytes<=140737488355328)(hbase:B<=w.heap.size)
 (h:∀v' w',w'.ownsRow B e size v' (n+m) (xs++news)->w.grownBy w' v.ownBlock->(v'.ownBlock=v.ownBlock\/v'.ownBlock=some w.heap.size)->wpListIn F n0 P ops Q rest (a.put o.dst v') w'):wpListIn F n0 P ops Q (o::rest) a w:=by
 obtain⟨i,z,ht,hi,hz,rfl,rfl,hzs,h0⟩:=hT;refine wpListIn_plain hgd fun K hK'=>?_;obtain⟨v',w',hr,h2,h3,_,h5⟩:=run_append_own_at (P:=P) w B t o.type e i z _ _ ht hi hz rfl rfl hzs h0 v n xs hown ad m c news hl hnews h1 h63 hbytes hbase;unfold Oper.wpIn;refine⟨?_,?_⟩
 ·simp[Oper.about,ho,resolve,Target.leads,Sem.run_pure]
 ·rw[Oper.semAt_plain F _ _ (by rw[ho]; intro c hc'; cases hc')];simp[execOp,ho,resolve,invoke,builtin,hs,hx,hr,Result.andThen];exact hK' _ _ (h v' w' h2 h3 h5)
theorem YcM {P:Program}{w:World}{ops:Array Oper}{rest:List Oper}{o:Oper}{a:Act}{Q:Exit->Act->World->Prop}(hgd:o.guard=none)(s x:Operand)(t:TypeId)
 (ho:o.op= .call { callee:=.builtin .append,args:=#[s,x],argTypes:=#[t,t] })(B:Nat)(e:TypeId)(size bytes:Nat)(hT:SlTy P t e size bytes)
 (v:Value)(n:Nat)(xs:List Value)(hs:a.eval s=v)(hown:w.ownsRow B e size v n xs)(ao:Option Addr)(m c:Nat)(news:List Value)(hx:a.eval x= .slice ao m c)(hl:news.length=m*size)(hne:m≠0->∃g o,ao=some ⟨g,o,none⟩/\∀j u,news[j]? =some u->w.cell? ⟨g,o+j,none⟩=some u)
 (h1:∀u∈news,u.oneCell'=true)(h63:n+m<=maxLen)(hbytes:(n+m)*bytes<=140737488355328)(hbase:B<=w.heap.size)
 (h:∀v' w',w'.ownsRow B e size v' (n+m) (xs++news)->w.grownBy w' v.ownBlock->(v'.ownBlock=v.ownBlock\/v'.ownBlock=some w.heap.size)->wpList P ops Q rest (a.put o.dst v') w'):wpList P ops Q (o::rest) a w:=
 wpList_plain hgd fun _ hK=>YcA s x t ho B e size bytes hT v n xs hs hown ao m c news hx hl hne h1 h63 hbytes hbase fun v' w' a b c=>hK _ _ (h v' w' a b c)
structure OutB (B ob:Nat)(ws:List ByteArray)(F:Nat->Prop)(W:World):Prop where
 ex:∃vo,W.heap[ob]? =some (.cells #[vo] 23 (0,0))/\W.ownsRow B 9 1 vo ws.length (ws.map Value.string)/\(∀k,F k↔k=ob\/vo.ownBlock=some k)/\vo.ownBlock≠some ob
section
variable {B B0 ob:Nat}{ws ys:List ByteArray}{F:Nat->Prop}{W V w1:World}{vo v':Value}
theorem OutB.stab:Stab B0 F (OutB B ob ws F):=by
 rintro X Y ⟨vo,h1,h2,h3,h4⟩ hK;exact⟨vo,(hK.block _ (Zg h1).1 (fun q=>q.2 ((h3 ob).2 (.inl rfl)))).trans h1,hK.owns h2 (fun k e q=>q.2 ((h3 k).2 (.inr e))),h3,h4⟩
theorem OutB.lt (h:OutB B ob ws F W):∀k,F k->k<W.heap.size:=by
 obtain⟨vo,h1,h2,h3,_⟩:=h;intro k hk;rcases(h3 k).1 hk with rfl | e
 ·exact(Zg h1).1
 ·exact(h2.lt k e).2
theorem OutB.pushed (h1:W.heap[ob]? =some (.cells #[vo] 23 (0,0)))(h3:∀k,F k↔k=ob\/vo.ownBlock=some k)(h4:vo.ownBlock≠some ob)(hrow:∀k,vo.ownBlock=some k->k<W.heap.size)(hV:Below W.heap.size W V)
 (ho:w1.ownsRow B 9 1 v' (ws.length+ys.length) (ws.map Value.string++ys.map Value.string))(hg:V.grownBy w1 vo.ownBlock)(hat:v'.ownBlock=vo.ownBlock\/v'.ownBlock=some V.heap.size):
 w1.heap[ob]? =some (.cells #[vo] 23 (0,0))/\∃F',OutB B ob (ws++ys) F' (w1.setCell ⟨ob,0,none⟩ v')/\Grow F F' W (w1.setCell ⟨ob,0,none⟩ v'):=by
 have hob:=(Zg h1).1;have hb1:w1.heap[ob]? =some (.cells #[vo] 23 (0,0)):=(hg.block ob (Nat.lt_of_lt_of_le hob hV.size) (fun e=>h4 e.symm)).trans ((hV.block ob hob).trans h1);have K:=Keep.of_setCell w1 ⟨ob,0,none⟩ v';have KG:Keep (fun k=>vo.ownBlock=some k) W w1:=(Keep.of_below hV).trans (Keep.of_grown hg) (fun _ _ e=>e);have hvz:=hV.size;have hgz:=hg.size;have hne:v'.ownBlock≠some ob:=fun e=>by
  rcases hat with a | a
  ·exact h4 (a.symm.trans e)
  ·rw[a] at e; cases e; omega
 refine⟨hb1,fun k=>k=ob\/v'.ownBlock=some k,⟨v',Yks hb1 v',?_,fun k=>Iff.rfl,hne⟩,⟨?_,?_,?_⟩⟩
 ·have:=K.owns ho (fun k e q=>by have q:k=ob:=q; subst q; exact hne e);rw[List.length_append,List.map_append];exact this
 ·exact(KG.mono (fun k _ e=>(h3 k).2 (.inr e))).trans K (fun i _ e=>(h3 i).2 (.inl e))
 ·rintro k (e | e)
  ·exact .inl ((h3 k).2 (.inl e))
  ·rcases hat with a | a
   ·exact .inl ((h3 k).2 (.inr (a.symm.trans e)))
   ·rw[a] at e; cases e; exact .inr hvz
 ·have hs:=K.size;rintro k (e | e)
  ·subst e; omega
  ·have:=(ho.lt k e).2; omega
end
theorem Yoj (s:ByteArray):(!s.toList.isEmpty)=decide (s.size≠0):=by
 rw[Lib.toList_data];have e:s.data.toList.length=s.size:=Array.length_toList;cases h:s.data.toList with
 |nil=>
   have q:s.size=0:=by rw[<-e,h]; rfl
   simp[q]
 |cons a l=>
   have q:s.size≠0:=by rw[<-e,h]; simp
   simp[q]
theorem Yli {R:Ending->World->Prop}{tmps:Array Value}{W':World}{D:Nat}(hD:W'.heap[D]? =some (.deferred (some [])))(hQ:R (.returned (.tuple #[])) (W'.putObj D (.deferred none))):
 LeavesInM Fence.wide 6 Tryz.prog Tryz.f147 tmps R [{ target:=.collected D,args:=#[] }] .returning W':=by
 have hr:(results Tryz.f147 tmps).run Tryz.prog (W'.putObj D (.deferred none))= .ok (.tuple #[]) (W'.putObj D (.deferred none)):=by
  simp[results,Tryz.f147,go_sem]
 exact⟨by simp,.inl ⟨D,_,rfl,run_takeDeferred hD,⟨_,hr,hQ⟩⟩⟩
def PutQ (B ob:Nat)(ws:List ByteArray)(F:Nat->Prop)(W:World)(e:Ending)(W':World):Prop:=e= .returned (.tuple #[])/\∃F',OutB B ob ws F' W'/\Grow F F' W W'
theorem put_any (T:Ts)(hok:T.ok)(B ob:Nat)(sign:ByteArray)(v:Value)(ws:List ByteArray)(F:Nat->Prop)(W:World)(hout:OutB B ob ws F W)(hB:B<=W.heap.size)(hT:TsV W (fun k=>k<W.heap.size/\¬F k) v T)(hlen:ws.length<=1000000000):
 Calls Tryz.prog 147 #[.string sign,v,.pointer (some ⟨ob,0,none⟩)] W (PutQ B ob (ws++(if sign.size=0 then [] else [sign])++T.wordsB) F W):=by
 obtain⟨ao,cap,rfl⟩:=hT.form;have hFn:∀f,Fence.wide.fn f:=fun _=>trivial;have hwc:=Ybt T;have hn4:=hok.nodes;have hwl:T.wordsB.length<=8000:=by unfold Ts.wordsB; rw[List.length_map]; omega
 refine callsIn_wide.1 (callsIn_of_wp_marks (n:=6) Tryz.func147 rfl trivial ?_);simp only[Tryz.ntmps147,List.size_toArray,List.length_cons,List.length_nil,Nat.reduceAdd,Nat.reduceSub,Array.replicate_succ,Array.replicate_zero,List.push_toArray,List.append_toArray,List.nil_append,List.cons_append];refine wpIn_wide.2 ?_;have HT:=Zh hT;have HOUT:=Zh hout;clear hT hout hn4 hwc;obtain⟨ws1,HWS1⟩:∃ws1,Hid (ws1=ws++(if sign.size=0 then [] else [sign])):=⟨_,Zh rfl⟩;have hlen1:ws1.length<=1000000001:=by rw[HWS1.out,List.length_append]; split<;>simp<;>omega
 rw[<-HWS1.out];go_upto_if 7 with(fail)
 go_cut [] from 6 to 11 (fun wx=>Hid (∃F1,OutB B ob ws1 F1 wx/\Grow F F1 W wx))
 case first=>
  have hsz:(!sign.toList.isEmpty)=decide (sign.size≠0):=Yoj sign;generalize(!sign.toList.isEmpty)=bb at hsz⊢;cases bb with
  |
   false=>
   have hsg:sign.size=0:=by simpa using hsz
   have HQ:Hid (∃F1,OutB B ob ws1 F1 W/\Grow F F1 W W):=Zh ⟨F,by rw[HWS1.out,if_pos hsg,List.append_nil]; exact HOUT.out,Grow.refl HOUT.out.lt⟩;clear hsg hsz;go_wp2;go_meet
   exact HQ
  |
   true=>
   have hsg:sign.size≠0:=by simpa using hsz
   clear hsz;have HWE:Hid (ws1=ws++[sign]):=Zh (by rw[HWS1.out,if_neg hsg]);obtain⟨vo,h1,h2,h3,h4⟩:=HOUT.out.ex;have b0:W.cell? ⟨ob,0,none⟩=some vo:=by simp[World.cell?,h1]
   have hobl:=(Zg h1).1;have hVb:=below_alloc1 W (.cells #[.string sign] 9);clear hsg;go_wp2_with (at_builtin; refine YcM rfl _ _ 23 rfl B 9 1 16 Yd3 vo ws.length (ws.map Value.string) rfl ((Keep.of_below (S:=fun _=>False) hVb).owns h2 (fun _ _ q=>q)) (some ⟨W.heap.size,0,none⟩) 1 1 [.string sign] rfl rfl (fun _=>⟨W.heap.size,0,rfl,by have:=World.news_of_block (cs:=#[.string sign]) (t:=9) (fr:=(0,0)) (heap_alloc_new W (.cells #[.string sign] 9)); simpa using this⟩) (by simp[Value.oneCell']) (by unfold maxLen; omega) Zo (by simp; omega) ?_);intro v' w1 ho' hg' hat';obtain⟨hb1,F',hO,hG⟩:=OutB.pushed (ys:=[sign]) h1 h3 h4 (fun k e=>(h2.lt k e).2) hVb ho' hg' (by simpa using hat');have u0:w1.cell? ⟨ob,0,none⟩=some vo:=by simp[World.cell?,hb1]
   have g0:w1.frozen? ⟨ob,0,none⟩=false:=by simp[World.frozen?,hb1]
   obtain⟨ao',n',cap',rfl⟩:∃ao n cap,v'= .slice ao n cap:=by
    obtain⟨ao,cap,e,_⟩:=Je ho';exact⟨ao,_,cap,e⟩
   have HQ:Hid (∃F1,OutB B ob ws1 F1 (w1.setCell ⟨ob,0,none⟩ (.slice ao' n' cap'))/\Grow F F1 W (w1.setCell ⟨ob,0,none⟩ (.slice ao' n' cap'))):=Zh ⟨F',by rw[HWE.out]; exact hO,hG⟩;clear hO hG ho' hg' hat' hb1 h2 h3 h4 hVb;go_wp2;go_meet
   exact HQ
 case rest=>
  obtain⟨F1,hO1,hG1⟩:=Hid.out hcut;have hFs:∀k,F1 k->k<wc.heap.size:=hO1.lt;have hTc:TsV wc (fun k=>k<wc.heap.size/\¬F1 k) (.slice ao T.len cap) T:=HT.out.keep (fun k q hk=>hG1.keep.block k hk q.2) (fun k q _=>⟨Nat.lt_of_lt_of_le q.1 hG1.keep.size,fun e=>(hG1.sub k e).elim q.2 (fun e=>by omega)⟩);have HO1:=Zh hO1;have HG1:=Zh hG1;have HTC:=Zh hTc;have HFS:=Zh hFs;have hzc:W.heap.size<=wc.heap.size:=hG1.keep.size;clear hO1 hG1 hTc hFs hcut;go_wp2_with fail;refine(YgJ _ _ _ _).mono ?_;rintro e w2 ⟨rfl,rfl⟩;go_wp2_with fail;obtain⟨V,hV⟩:∃V,V=wc.alloc (.cells #[.slice ao T.len cap] 35):=⟨_,rfl⟩;have hVn:V.heap[wc.heap.size]? =some (.cells #[.slice ao T.len cap] 35 (0,0)):=by rw[hV]; exact heap_alloc_new _ _
  have hVb:Below wc.heap.size wc V:=by rw[hV]; exact below_alloc1 _ _
  have hVz:V.heap.size=wc.heap.size+1:=by rw[hV]; simp
  rw[<-hV];clear hV;have hcl:V.cell? ⟨wc.heap.size,0,none⟩=some (.slice ao T.len cap):=by simp[World.cell?,hVn]
  have hTV:TsV V (fun k=>k<V.heap.size/\¬F1 k) (.slice ao T.len cap) T:=HTC.out.keep (fun k q _=>hVb.block k q.1) (fun k q _=>⟨by omega,q.2⟩);have HSQ:=Zh (YcY.seq (F0:=F1) (Yl3 T) hok (lb:=wc.heap.size) Zo (fun e=>by have:=HFS.out _ e; omega) hcl hTV);have hI0:OutB B ob (ws1++[]) F1 V:=by rw[List.append_nil]; exact OutB.stab (B0:=0) _ _ HO1.out (Keep.of_below hVb)
  have HI0:=Zh hI0;have HVB:=Zh hVb;have HVZ:=Zh hVz;clear hcl hTV hVn hI0 hVb;refine YgI (gf:=198) (lb:=#[.pointer (some ⟨wc.heap.size,0,none⟩)]) rfl (enters_of Tryz.func198 (by kernel_rfl) rfl) HSQ.out (fun _=>rfl) (fun q F2 X=>OutB B ob (ws1++q) F2 X) (fun k e=>by have:=HFS.out k e; have:=HVZ.out; omega) (fun q F2=>OutB.stab) HI0.out
   (fun x=>{ tmps:=#[.string sign,.slice ao T.len cap,.pointer (some ⟨ob,0,none⟩),undef,undef,.string x,u6,u7,u8,u9,u10,u11,.slice ao T.len cap,.func (.func 198) #[] #[.pointer (some ⟨wc.heap.size,0,none⟩)],.string x,undef,undef,undef,undef],defers:=[] })
   ?assign ?body ?done
  case assign=>
   intro l2 x X K hK;have hFn:∀f,(Fence.wide.inRound l2).fn f:=fun _=>trivial;unfold YhM;gi_wp2
   simpa using hK
  case body=>
   intro l2 q x r F2 X hxs hXz hF2 hI;have hFn:∀f,(Fence.wide.inRound l2).fn f:=fun _=>trivial;have hql:q.length<=8000:=by have:=congrArg List.length hxs; rw[List.length_append] at this; omega
   obtain⟨vo,h1,h2,h3,h4⟩:=hI.ex;have b0:X.cell? ⟨ob,0,none⟩=some vo:=by simp[World.cell?,h1]
   have hobl:=(Zg h1).1;have hVb:=below_alloc1 X (.cells #[.string x] 9);have hl9:(ws1++q).length<=1000010000:=by rw[List.length_append]; omega
   have hBX:B<=X.heap.size:=by have:=HVZ.out; omega
   gi_wp2_with (gi_at_builtin; refine Yf3 rfl _ _ 23 rfl B 9 1 16 Yd3 vo (ws1++q).length ((ws1++q).map Value.string) rfl ((Keep.of_below (S:=fun _=>False) hVb).owns h2 (fun _ _ q=>q)) ⟨X.heap.size,0,none⟩ 1 1 [.string x] rfl rfl (World.news_of_block (cs:=#[.string x]) (t:=9) (fr:=(0,0)) (heap_alloc_new X (.cells #[.string x] 9))) (by simp[Value.oneCell']) (by unfold maxLen; omega) Zo (by simp; omega) ?_)
   intro v' w1 ho' hg' hat';obtain⟨hb1,F',hO,hG⟩:=OutB.pushed (ws:=ws1++q) (ys:=[x]) h1 h3 h4 (fun k e=>(h2.lt k e).2) hVb (by simpa using ho') hg' (by simpa using hat');have u0:w1.cell? ⟨ob,0,none⟩=some vo:=by simp[World.cell?,hb1]
   have g0:w1.frozen? ⟨ob,0,none⟩=false:=by simp[World.frozen?,hb1]
   obtain⟨ao',n',cap',rfl⟩:∃ao n cap,v'= .slice ao n cap:=by
    obtain⟨ao,cap,e,_⟩:=Je ho';exact⟨ao,_,cap,e⟩
   have HQ:Hid (∃F',OutB B ob (ws1++(q++[x])) F' (w1.setCell ⟨ob,0,none⟩ (.slice ao' n' cap'))/\Grow F2 F' X (w1.setCell ⟨ob,0,none⟩ (.slice ao' n' cap'))):=Zh ⟨F',by rw[<-List.append_assoc]; exact hO,hG⟩;clear hO hG ho' hg' hat' hb1 h1 h2 h3 h4 hVb;gi_wp2
   exact HQ.out
  case done=>
   intro F2 X hI hG hD hXz hne;have hDz:wc.heap.size<=V.heap.size:=by have:=HVZ.out; omega
   have hfin:PutQ B ob (ws1++T.wordsB) F W (.returned (.tuple #[])) (X.putObj V.heap.size (.deferred none)):=by
    have K:=JF X V.heap.size (.deferred none);refine⟨rfl,F2,OutB.stab (B0:=V.heap.size) _ _ hI (K.mono fun i _ e=>?_),?_⟩
    ·have e:i=V.heap.size:=e;exact⟨by omega,fun f=>hne i f e⟩
    ·exact(HG1.out.trans (Grow.after (Keep.of_below HVB.out) hG)).then K (fun i hi e=>by have e:i=V.heap.size:=e; omega)
   have HF:=Zh hfin;have HD:=Zh hD;clear hfin hD hI hG hne;dsimp only;go_wp2;exact Yli HD.out HF.out
end
section
open Go.RowKit Go.Shelf
def Ybw (p:Ts×Ts):List ByteArray:=⟨#[44]⟩::(p.1.wordsB++⟨#[58]⟩::p.2.wordsB)
def headB (left:Ts)(tests:List (Ts×Ts))(right subject:Ts)(noBlock:Bool):List ByteArray:=
 left.wordsB++tests.flatMap Ybw++(if noBlock then ⟨#[61]⟩::right.wordsB else ⟨#[44]⟩::(subject.wordsB++[⟨#[58]⟩,⟨#[123]⟩]))
theorem Ybb {T:Ts}(h:T.ok):T.wordsB.length<=8000:=by
 have:=Ybt T;have:=h.nodes;unfold Ts.wordsB; rw[List.length_map]; omega
def Ydp (tests:List (Ts×Ts)):Prop:=∀p∈tests,p.1.ok/\p.2.ok
theorem Yft:∀tests:List (Ts×Ts),Ydp tests->(tests.flatMap Ybw).length<=16002*tests.length
 |[],_=>by simp
 |
  p::l,h=>by
  have h1:=Yft l (fun q hq=>h q (by simp[hq]));have h2:=Ybb (h p Zs).1;have h3:=Ybb (h p Zs).2;rw[List.flatMap_cons,List.length_append];simp only[Ybw,List.length_cons,List.length_append];omega
structure HdS (w:World)(c:Array Value)(ws:List ByteArray)(F:Nat->Prop)(W:World):Prop where
 out:OutB w.heap.size (w.heap.size+1) ws F W
 below:Below w.heap.size w W
 low:∀k,F k->w.heap.size+1<=k
 box:W.heap[w.heap.size]? =some (.cells c 39 (0,0))
theorem HdS.step {w:World}{c:Array Value}{ws ws':List ByteArray}{F F':Nat->Prop}{W W':World}(h:HdS w c ws F W)(ho:OutB w.heap.size (w.heap.size+1) ws' F' W')(hG:Grow F F' W W'):HdS w c ws' F' W':=by
 have hz:=(Zg h.box).1;refine⟨ho,h.below.trans (hG.keep.below h.below.size (fun i hi e=>by have:=h.low i e; omega)),fun k e=>(hG.sub k e).elim (h.low k) (fun e=>by omega),(hG.keep.block _ hz (fun e=>by have:=h.low _ e; omega)).trans h.box⟩
theorem HdS.keep {w:World}{c:Array Value}{ws:List ByteArray}{F:Nat->Prop}{W W':World}(h:HdS w c ws F W)(hb:Below W.heap.size W W'):HdS w c ws F W':=by
 have hz:=(Zg h.box).1;exact⟨OutB.stab (B0:=0) _ _ h.out (Keep.of_below hb),h.below.trans (hb.mono h.below.size),h.low,(hb.block _ hz).trans h.box⟩
theorem HdS.put {w:World}{c:Array Value}{ws:List ByteArray}{F:Nat->Prop}{W:World}(h:HdS w c ws F W)(T:Ts)(hok:T.ok)(sign:ByteArray)(v:Value)(hT:TsV w (fun _=>True) v T)(hlen:ws.length<=1000000000):
 Calls Tryz.prog 147 #[.string sign,v,.pointer (some ⟨w.heap.size+1,0,none⟩)] W fun e W'=>e= .returned (.tuple #[])/\∃F',HdS w c (ws++(if sign.size=0 then [] else [sign])++T.wordsB) F' W'/\Grow F F' W W':=by
 have hTW:TsV W (fun k=>k<W.heap.size/\¬F k) v T:=hT.keep (fun k _ hk=>h.below.block k hk) (fun k _ hk=>⟨Nat.lt_of_lt_of_le hk h.below.size,fun e=>by have:=h.low k e; omega⟩);refine(put_any T hok w.heap.size (w.heap.size+1) sign v ws F W h.out h.below.size hTW hlen).mono ?_;rintro e W' ⟨h1,F',h2,h3⟩;exact⟨h1,F',h.step h2 h3,h3⟩
def Yof (w:World)(ws:List ByteArray)(e:Ending)(w':World):Prop:=(∃v,e= .returned v/\w'.ownsRow w.heap.size 9 1 v ws.length (ws.map Value.string))/\Below w.heap.size w w'
theorem YmR (left right subject:Ts)(tests:List (Ts×Ts))(v0 v1 v2 v3:Value)(a4:Option Addr)(n4 c4:Nat)(w:World)(h0:TsV w (fun _=>True) v0 left)(h1:Jv w (fun _=>True) v1 tests)(h2:TsV w (fun _=>True) v2 right)(h3:TsV w (fun _=>True) v3 subject)
 (k0:left.ok)(k1:Ydp tests)(k2:right.ok)(k3:subject.ok)(hl:tests.length<=10000):
 Calls Tryz.prog 109 #[.agg #[v0,v1,v2,v3,.slice a4 n4 c4]] w (Yof w (headB left tests right subject (n4==0))):=by
 obtain⟨a0,c0,rfl⟩:=h0.form;obtain⟨a1,c1,rfl,ht1⟩:=h1;obtain⟨a2,c2,rfl⟩:=h2.form;obtain⟨a3,c3,rfl⟩:=h3.form;have H0:=Zh h0;have H1:=Zh ht1;have H2:=Zh h2;have H3:=Zh h3;have K1:Hid _:=k1;have e0:=Ybb k0;have e1:∀k,((tests.take k).flatMap Ybw).length<=160020000:=fun k=>by
  have:=Yft (tests.take k) (fun p hp=>k1 p (List.mem_of_mem_take hp));have:(tests.take k).length<=tests.length:=by rw[List.length_take]; omega
  omega
 have E1:Hid _:=e1;clear h0 ht1 h2 h3 e1 k1;go_enter Tryz.func109,Tryz.ntmps109;go_wp2_with fail;obtain⟨W0,hW0⟩:∃W0,W0=(w.alloc (.cells #[.slice a0 left.len c0,.slice a1 tests.length c1,.slice a2 right.len c2,.slice a3 subject.len c3,.slice a4 n4 c4] 39)).alloc (.cells #[.slice none 0 0] 23):=⟨_,rfl⟩;have hS0:HdS w #[.slice a0 left.len c0,.slice a1 tests.length c1,.slice a2 right.len c2,.slice a3 subject.len c3,.slice a4 n4 c4] [] (fun k=>k=w.heap.size+1) W0:=by
  have x0:=heap_alloc_new w (.cells #[.slice a0 left.len c0,.slice a1 tests.length c1,.slice a2 right.len c2,.slice a3 subject.len c3,.slice a4 n4 c4] 39);have y0:=below_alloc1 w (.cells #[.slice a0 left.len c0,.slice a1 tests.length c1,.slice a2 right.len c2,.slice a3 subject.len c3,.slice a4 n4 c4] 39);have z0:(w.alloc (.cells #[.slice a0 left.len c0,.slice a1 tests.length c1,.slice a2 right.len c2,.slice a3 subject.len c3,.slice a4 n4 c4] 39)).heap.size=w.heap.size+1:=Zs;generalize w.alloc (.cells #[.slice a0 left.len c0,.slice a1 tests.length c1,.slice a2 right.len c2,.slice a3 subject.len c3,.slice a4 n4 c4] 39)=W1 at x0 y0 z0 hW0;have x1:=heap_alloc_new W1 (.cells #[.slice none 0 0] 23);have y1:=below_alloc1 W1 (.cells #[.slice none 0 0] 23);rw[z0] at x1;subst hW0;refine⟨⟨.slice none 0 0,x1,World.ownsRow_nil _ _ _ _,fun k=>by simp[Value.ownBlock],by simp[Value.ownBlock]⟩,y0.trans (y1.mono Zo),fun k e=>by have e:k=w.heap.size+1:=e; omega,(y1.block _ Zo).trans x0⟩
 rw[<-hW0];clear hW0;have b0:W0.cell? ⟨w.heap.size,0,none⟩=some (.slice a0 left.len c0):=by simp[World.cell?,hS0.box]
 have HC:=Zh (hS0.put left k0 ⟨#[]⟩ _ H0.out Zs);clear hS0;go_wp2_with fail;refine HC.out.mono ?_;rintro e w1 ⟨rfl,F1,hS1,_⟩;obtain⟨c,HCC⟩:∃c:Array Value,Hid (c=#[.slice a0 left.len c0,.slice a1 tests.length c1,.slice a2 right.len c2,.slice a3 subject.len c3,.slice a4 n4 c4]):=⟨_,Zh rfl⟩;rw[<-HCC.out] at hS1;have hL0:(([]:List ByteArray)++(if (⟨#[]⟩:ByteArray).size=0 then [] else [⟨#[]⟩]))++left.wordsB=left.wordsB++(tests.take 0).flatMap Ybw:=by rw[if_pos (show(⟨#[]⟩:ByteArray).size=0 from rfl)]; simp
 rw[hL0] at hS1;have HS1:=Zh hS1;have b1:w1.cell? ⟨w.heap.size,1,none⟩=some (.slice a1 tests.length c1):=by have:=hS1.box; rw[HCC.out] at this; simp[World.cell?,this]
 clear hS1 HC b0 hL0;go_wp2_with fail;go_loopw [15] (fun i wr=>∃(k:Nat) (F:Nat->Prop),i= .int .i64 k/\k<=tests.length/\Hid (HdS w c (left.wordsB++(tests.take k).flatMap Ybw) F wr)) (fun i _=>tests.length - (intOf i).toNat)
 case atStart=>exact⟨0,F1,rfl,Nat.zero_le _,HS1⟩
 case round=>
  obtain⟨k,F,rfl,hk,HS⟩:=hrel;clear b1 HS1;have hle:=e0;have hE:=E1.out k;have hwz:=HS.out.below.size;by_cases hlt:k<tests.length
  ·have l0:decide ((k:Int)<(tests.length:Int))=true:=Zt;have l1:decide (k<tests.length)=true:=decide_eq_true hlt;obtain⟨g,o,rfl,_,hat⟩:=H1.out (fun q=>by rw[q] at hlt; simp at hlt);obtain⟨⟨v,hv,hV⟩,⟨u,hu,hU⟩⟩:=YbY tests g o k hat hlt;have hgl:=World.block_lt_of_cell? w _ hv;have hgw:g<wr.heap.size:=Nat.lt_of_lt_of_le hgl hwz;have d0:=(HS.out.below.cell (p:=⟨g,o+k*2,none⟩) hgl).trans hv;have d1:=(HS.out.below.cell (p:=⟨g,o+k*2+1,none⟩) hgl).trans hu;have HOK:=Zh (K1.out tests[k] (List.getElem_mem hlt));have HTK:Hid ((tests.take (k+1)).flatMap Ybw=(tests.take k).flatMap Ybw++Ybw tests[k]):=Zh (by
    rw[List.take_succ_eq_append_getElem hlt,List.flatMap_append]; simp)
   generalize tests[k]=x at hV hU HOK HTK;obtain⟨va,vc,rfl⟩:=hV.form;obtain⟨ua,uc,rfl⟩:=hU.form;have HV:=Zh hV;have HU:=Zh hU;obtain⟨V0,hV0⟩:∃V0,V0=wr.alloc (.cells #[.slice va x.1.len vc,.slice ua x.2.len uc] 104):=⟨_,rfl⟩;have hn:V0.heap[wr.heap.size]? =some (.cells #[.slice va x.1.len vc,.slice ua x.2.len uc] 104 (0,0)):=by rw[hV0]; exact heap_alloc_new _ _
   have hb0:Below wr.heap.size wr V0:=by rw[hV0]; exact below_alloc1 _ _
   have hSV:=HS.out.keep hb0;have HV0:=Zh hV0;have hFl:=HS.out.out.lt;have HP1:=Zh (hSV.put x.1 HOK.out.1 ⟨#[44]⟩ _ hV (by rw[List.length_append]; omega));have HNT:=Zh (show ¬F wr.heap.size from fun e=>by have:=hFl _ e; omega);have HN:=Zh hn;have hx1:=Ybb HOK.out.1;clear hV hU hv hu hat hn hb0 hSV hFl hV0;go_wp2_with fail;rw[<-HV0.out];refine HP1.out.mono ?_;rintro e w2 ⟨rfl,F2,hS2,hG2⟩;have hn2:=(hG2.keep.block _ (Zg HN.out).1 HNT.out).trans HN.out;have t1:w2.cell? ⟨wr.heap.size,1,none⟩=some (.slice ua x.2.len uc):=by simp[World.cell?,hn2]
   have HP2:=Zh (hS2.put x.2 HOK.out.2 ⟨#[58]⟩ _ HU.out (by simp only[List.length_append]; rw[if_neg Zd]; simp only[List.length_cons,List.length_nil]; omega));have htw:=(Zg hn2).1;clear hS2 hG2 hn2 HP1 d0 d1;go_wp2_with fail;refine HP2.out.mono ?_;rintro e w3 ⟨rfl,F3,hS3,_⟩;have HS3:Hid (HdS w c (left.wordsB++(tests.take (k+1)).flatMap Ybw) F3 w3):=Zh (by
    rw[HTK.out];rw[if_neg Zd,if_neg Zd] at hS3;have e:left.wordsB++(tests.take k).flatMap Ybw++[⟨#[44]⟩]++x.1.wordsB++[⟨#[58]⟩]++x.2.wordsB=left.wordsB++((tests.take k).flatMap Ybw++Ybw x):=by simp[Ybw]
    rw[<-e];exact hS3)
   clear hS3 HP2 t1;go_wp2_with fail;go_roundw
   case rel=>exact⟨k+1,F3,by go_num,by omega,HS3⟩
   case measure=>simp[intOf]; omega
  ·obtain rfl:k=tests.length:=by omega
   have l0:decide ((tests.length:Int)<(tests.length:Int))=false:=Zf;have HSF:Hid (HdS w c (left.wordsB++tests.flatMap Ybw) F wr):=Zh (by have:=HS.out; rw[List.take_length] at this; exact this);rw[List.take_length] at hE;have hbx:=HSF.out.box;rw[HCC.out] at hbx;have b2:wr.cell? ⟨w.heap.size,2,none⟩=some (.slice a2 right.len c2):=by simp[World.cell?,hbx]
   have b3:wr.cell? ⟨w.heap.size,3,none⟩=some (.slice a3 subject.len c3):=by simp[World.cell?,hbx]
   have b4:wr.cell? ⟨w.heap.size,4,none⟩=some (.slice a4 n4 c4):=by simp[World.cell?,hbx]
   clear hbx HS hlt;by_cases hn4:n4=0
   ·have q0:((n4:Int)==0)=true:=by rw[beq_iff_eq]; omega
    have HH:Hid (headB left tests right subject (n4==0)=left.wordsB++tests.flatMap Ybw++⟨#[61]⟩::right.wordsB):=Zh (by unfold headB; rw[if_pos (by simpa using hn4)]);have HP:=Zh (HSF.out.put right k2 ⟨#[61]⟩ _ H2.out (by rw[List.length_append]; omega));clear hn4;go_wp2_with fail;refine HP.out.mono ?_;rintro e w2 ⟨rfl,F2,hS2,_⟩;rw[if_neg Zd] at hS2;obtain⟨vo,x1,x2,_,_⟩:=hS2.out.ex;have u0:w2.cell? ⟨w.heap.size+1,0,none⟩=some vo:=by simp[World.cell?,x1]
    have HQ:Hid (Yof w (headB left tests right subject (n4==0)) (.returned vo) w2):=Zh ⟨⟨vo,rfl,by rw[HH.out]; simpa using x2⟩,hS2.below⟩;clear hS2 x1 x2 HP;go_wp2_with fail;go_ret;exact HQ.out
   ·have q0:((n4:Int)==0)=false:=by rw[beq_eq_false_iff_ne]; omega
    have HH:Hid (headB left tests right subject (n4==0)=left.wordsB++tests.flatMap Ybw++⟨#[44]⟩::(subject.wordsB++[⟨#[58]⟩,⟨#[123]⟩])):=Zh (by unfold headB; rw[if_neg (by simpa using hn4)]);have HP:=Zh (HSF.out.put subject k3 ⟨#[44]⟩ _ H3.out (by rw[List.length_append]; omega));have hx3:=Ybb k3;clear hn4;go_wp2_with fail;refine HP.out.mono ?_;rintro e w2 ⟨rfl,F2,hS2,_⟩;rw[if_neg Zd] at hS2;obtain⟨vo,x1,x2,x3,_⟩:=hS2.out.ex;have u0:w2.cell? ⟨w.heap.size+1,0,none⟩=some vo:=by simp[World.cell?,x1]
    have hob:=(Zg x1).1;have hVb:=below_alloc1 w2 (.cells #[.string ⟨#[58]⟩,.string ⟨#[123]⟩] 9);obtain⟨L,HL⟩:∃L,Hid (L=left.wordsB++tests.flatMap Ybw++[⟨#[44]⟩]++subject.wordsB):=⟨_,Zh rfl⟩;rw[<-HL.out] at x2;have hLl:L.length<=200000000:=by rw[HL.out]; simp only[List.length_append,List.length_cons,List.length_nil]; omega
    have HB2:=Zh hS2.below;have hw2:=hS2.below.size;clear hS2 HP;go_wp2_with (at_builtin; refine YcM rfl _ _ 23 rfl w.heap.size 9 1 16 Yd3 vo L.length (L.map Value.string) rfl ((Keep.of_below (S:=fun _=>False) hVb).owns x2 (fun _ _ q=>q)) (some ⟨w2.heap.size,0,none⟩) 2 2 [.string ⟨#[58]⟩,.string ⟨#[123]⟩] rfl rfl (fun _=>⟨w2.heap.size,0,rfl,by have:=World.news_of_block (cs:=#[.string ⟨#[58]⟩,.string ⟨#[123]⟩]) (t:=9) (fr:=(0,0)) (heap_alloc_new w2 (.cells #[.string ⟨#[58]⟩,.string ⟨#[123]⟩] 9)); simpa using this⟩) (by simp[Value.oneCell']) (by unfold maxLen; omega) Zo (by simp; omega) ?_);intro v' w9 ho' hg' hat';obtain⟨ao',n',cap',rfl⟩:∃ao n cap,v'= .slice ao n cap:=by
     obtain⟨ao,cap,e,_⟩:=Je ho';exact⟨ao,_,cap,e⟩
    have HQ:Hid (Yof w (headB left tests right subject (n4==0)) (.returned (.slice ao' n' cap')) w9):=Zh ⟨⟨_,rfl,by
     rw[HH.out,show left.wordsB++tests.flatMap Ybw++⟨#[44]⟩::(subject.wordsB++[⟨#[58]⟩,⟨#[123]⟩])=L++[⟨#[58]⟩,⟨#[123]⟩] by rw[HL.out]; simp,List.length_append,List.map_append];exact ho'⟩,HB2.out.trans (((hVb.mono hw2)).grown hg' (by simp; omega) (fun k e=>(x2.lt k e).1))⟩
    clear ho' hg' hat' x1 x2 x3 hVb;go_wp2_with fail;go_ret;exact HQ.out
end
def rV (ao:Option Addr)(cap:Nat)(L:List Tk)(en:Nat)(i a c:Int):Value:=.agg #[.slice ao L.length cap,.int .i64 i,.int .i64 en,.int .i64 a,.int .i64 c]
def RTok (ao:Option Addr)(L:List Tk)(w:World):Prop:=
 L≠[]->∃g off,ao=some ⟨g,off,none⟩/\g<w.heap.size/\∀(k:Nat) (h:k<L.length),w.cell? ⟨g,off+k*3,none⟩=some (.int .i64 L[k].kind)/\w.cell? ⟨g,off+k*3+1,none⟩=some (.string L[k].text)/\w.cell? ⟨g,off+k*3+2,none⟩=some (.int .i64 L[k].at_)
theorem RTok.below {ao:Option Addr}{L:List Tk}{w w':World}(h:RTok ao L w)(hb:Below w.heap.size w w'):RTok ao L w':=fun hn=>by
 obtain⟨g,off,e,hg,hc⟩:=h hn;have hcell:=fun o=>hb.cell (p:=⟨g,o,none⟩) hg;exact⟨g,off,e,Nat.lt_of_lt_of_le hg hb.size,fun k hk=>⟨(hcell _).trans (hc k hk).1,(hcell _).trans (hc k hk).2.1,(hcell _).trans (hc k hk).2.2⟩⟩
theorem RTok.tok {ao:Option Addr}{L:List Tk}{w:World}(h:RTok ao L w){i:Nat}(hi:i<L.length):∃g off,ao=some ⟨g,off,none⟩/\g<w.heap.size/\w.cell? ⟨g,off+i*3,none⟩=some (.int .i64 L[i].kind)/\w.cell? ⟨g,off+i*3+1,none⟩=some (.string L[i].text)/\w.cell? ⟨g,off+i*3+2,none⟩=some (.int .i64 L[i].at_):=by
 obtain⟨g,off,e,hg,hc⟩:=h (fun q=>by rw[q] at hi; cases hi);exact⟨g,off,e,hg,hc i hi⟩
section
variable {b:Nat}{ao:Option Addr}{cap:Nat}{L:List Tk}{en:Nat}{i a c:Int}{w:World}
end
theorem YhW (ao:Option Addr)(cap:Nat)(L:List Tk)(en i:Nat)(s:ByteArray)(w:World)(hT:RTok ao L w)(hi:i<=L.length)(hL:L.length<=40000):
 Calls Tryz.prog 45 #[rV ao cap L en i 0 0,.string s] w fun e w'=>e= .returned (.bool (isN L i 6 s||isN L i 7 s))/\Below w.heap.size w w':=by
 have hb0:=below_alloc1 w (.cells #[.slice ao L.length cap,.int .i64 i,.int .i64 en,.int .i64 0,.int .i64 0] 85);unfold rV;by_cases hlt:i<L.length
 ·obtain⟨g,off,rfl,hg,d0,d1,d2⟩:=hT.tok hlt;have l0:decide ((i:Int)<(L.length:Int))=true:=Zt;have l1:decide (i<L.length)=true:=decide_eq_true hlt;have HR:Hid ((isN L i 6 s||isN L i 7 s)=((L[i].kind==6||L[i].kind==7)&&decide (L[i].text=s))):=Zh (by
   unfold isN;rw[List.getElem?_eq_getElem hlt];dsimp only;cases(L[i].kind==6)<;>cases(L[i].kind==7)<;>cases decide (L[i].text=s)<;>rfl)
  generalize(isN L i 6 s||isN L i 7 s)=R at HR⊢;generalize L[i]=t at d0 d1 d2 HR;obtain⟨kind,text,at_⟩:=t;dsimp only at d0 d1 d2 HR;clear hT;go_enter Tryz.func45,Tryz.ntmps45;go_wp2;all_goals
   go_ret;refine⟨?_,hb0⟩;rw[HR.out,<-Yc7];first
    |(simp_all; done)
    |(
      have h6:kind=6:=by assumption
      subst h6;rfl)
    |(
      have h7:kind=7:=by assumption
      subst h7;rfl)
 ·have l0:decide ((i:Int)<(L.length:Int))=false:=Zf;have l1:decide (i<L.length)=false:=decide_eq_false hlt;have HR:Hid ((isN L i 6 s||isN L i 7 s)=false):=Zh (by unfold isN; rw[List.getElem?_eq_none Zo]; rfl);generalize(isN L i 6 s||isN L i 7 s)=R at HR⊢;go_enter Tryz.func45,Tryz.ntmps45;go_wp2;go_ret;exact⟨by rw[HR.out]; rfl,hb0⟩
theorem YhV (ao:Option Addr)(cap:Nat)(L:List Tk)(en:Nat)(i a c:Int)(s:ByteArray)(w:World)(hc:¬c=0):
 Calls Tryz.prog 45 #[rV ao cap L en i a c,.string s] w fun e w'=>e= .returned (.bool false)/\Below w.heap.size w w':=by
 have hb0:=below_alloc1 w (.cells #[.slice ao L.length cap,.int .i64 i,.int .i64 en,.int .i64 a,.int .i64 c] 85);have b0:(c==0)=false:=by simpa using hc
 unfold rV;clear hc;go_enter Tryz.func45,Tryz.ntmps45;go_wp2;go_ret;exact⟨rfl,hb0⟩
theorem Ycd {tmps:Array Value}{g:Nat}{V:World}{a b c d e:Value}(t4:tmps[4]? =some (.pointer (some ⟨g,0,none⟩)))
 (h:V.heap[g]? =some (.cells #[a,b,c,d,e] 85 (0,0))):(results Tryz.f57 tmps).run Tryz.prog V= .ok (.agg #[a,b,c,d,e]) V:=by
 have c0:V.cell? ⟨g,0,none⟩=some a:=by simp[World.cell?,h]
 have c1:V.cell? ⟨g,1,none⟩=some b:=by simp[World.cell?,h]
 have c2:V.cell? ⟨g,2,none⟩=some c:=by simp[World.cell?,h]
 have c3:V.cell? ⟨g,3,none⟩=some d:=by simp[World.cell?,h]
 have c4:V.cell? ⟨g,4,none⟩=some e:=by simp[World.cell?,h]
 simp[results,Tryz.f57,go_sem,t4,c0,c1,c2,c3,c4]
theorem cells5 (W:World)(o1 o2:Obj):((W.alloc o1).alloc o2).heap[W.heap.size]? =some o1/\((W.alloc o1).alloc o2).heap[W.heap.size+1]? =some o2/\Below W.heap.size W ((W.alloc o1).alloc o2):=YaP W o1 o2 |> fun h=>⟨h.1,h.2.1,h.2.2.1⟩
theorem YeC (ao:Option Addr)(cap:Nat)(L:List Tk)(en:Nat)(i a c:Int)(code:Int)(w:World)(hc:¬c=0):
 Calls Tryz.prog 57 #[rV ao cap L en i a c,.int .i64 code] w fun e w'=>e= .returned (rV ao cap L en i a c)/\Below w.heap.size w w':=by
 have b0:(c != 0)=true:=by simpa using hc
 unfold rV;clear hc;go_enter Tryz.func57,Tryz.ntmps57;go_wp2;exact bodyPost_ret (Ycd rfl (cells5 _ _ _).2.1) rfl ⟨rfl,(cells5 _ _ _).2.2⟩
theorem YaS (ao:Option Addr)(cap:Nat)(L:List Tk)(en i:Nat)(code:Int)(w:World)(hT:RTok ao L w)(hi:i<=L.length)(hL:L.length<=40000):
 Calls Tryz.prog 57 #[rV ao cap L en i 0 0,.int .i64 code] w fun e w'=>e= .returned (rV ao cap L en i (Y6 L en i) (if i<L.length then code else 51))/\Below w.heap.size w w':=by
 unfold rV;by_cases hlt:i<L.length
 ·obtain⟨g,off,rfl,hg,d0,d1,d2⟩:=hT.tok hlt;have l0:decide ((i:Int)<(L.length:Int))=true:=Zt;have l1:decide (i<L.length)=true:=decide_eq_true hlt;have l2:decide ((L.length:Int)<=(i:Int))=false:=Zf;have l3:decide (L.length<=i)=false:=Zf;have HR:Hid (Y6 L en i=L[i].at_):=Zh (by unfold Y6; rw[List.getElem?_eq_getElem hlt]);rw[if_pos hlt];generalize Y6 L en i=H at HR⊢;generalize L[i]=t at d0 d1 d2 HR;obtain⟨kind,text,at_⟩:=t;dsimp only at d0 d1 d2 HR;clear hT;go_enter Tryz.func57,Tryz.ntmps57;go_wp2;refine bodyPost_ret (Ycd rfl (cells5 _ _ _).2.1) rfl ⟨?_,(cells5 _ _ _).2.2⟩;rw[HR.out]
 ·have l0:decide ((i:Int)<(L.length:Int))=false:=Zf;have l1:decide (i<L.length)=false:=decide_eq_false hlt;have l2:decide ((L.length:Int)<=(i:Int))=true:=Zt;have l3:decide (L.length<=i)=true:=Zt;have HR:Hid (Y6 L en i=en):=Zh (by unfold Y6; rw[List.getElem?_eq_none Zo]);rw[if_neg hlt];generalize Y6 L en i=H at HR⊢;clear hT;go_enter Tryz.func57,Tryz.ntmps57;go_wp2;refine bodyPost_ret (Ycd rfl (cells5 _ _ _).2.1) rfl ⟨?_,(cells5 _ _ _).2.2⟩;rw[HR.out]
def rOut (ao:Option Addr)(cap:Nat)(L:List Tk)(en:Nat){α:Type}(R:Rd α)(r:Value):Prop:=match R with
 |.ok _ j=>r=rV ao cap L en j 0 0
 |.bad a c=>∃i:Int,r=rV ao cap L en i a c
theorem YeY {tmps:Array Value}{g:Nat}{V:World}{a b c d e:Value}(t4:tmps[4]? =some (.pointer (some ⟨g,0,none⟩)))
 (h:V.heap[g]? =some (.cells #[a,b,c,d,e] 85 (0,0))):(results Tryz.f47 tmps).run Tryz.prog V= .ok (.agg #[a,b,c,d,e]) V:=by
 have c0:V.cell? ⟨g,0,none⟩=some a:=by simp[World.cell?,h]
 have c1:V.cell? ⟨g,1,none⟩=some b:=by simp[World.cell?,h]
 have c2:V.cell? ⟨g,2,none⟩=some c:=by simp[World.cell?,h]
 have c3:V.cell? ⟨g,3,none⟩=some d:=by simp[World.cell?,h]
 have c4:V.cell? ⟨g,4,none⟩=some e:=by simp[World.cell?,h]
 simp[results,Tryz.f47,go_sem,t4,c0,c1,c2,c3,c4]
theorem row5 {W:World}{g:Nat}{a b c d e:Value}{t:TypeId}(h:W.heap[g]? =some (.cells #[a,b,c,d,e] t (0,0))):W.cell? ⟨g,0,none⟩=some a/\W.cell? ⟨g,1,none⟩=some b/\W.cell? ⟨g,2,none⟩=some c/\W.cell? ⟨g,3,none⟩=some d/\W.cell? ⟨g,4,none⟩=some e:=
 ⟨by simp[World.cell?,h],by simp[World.cell?,h],by simp[World.cell?,h],by simp[World.cell?,h],by simp[World.cell?,h]⟩
theorem frz5 {W:World}{g:Nat}{a b c d e:Value}{t:TypeId}(h:W.heap[g]? =some (.cells #[a,b,c,d,e] t (0,0))):W.frozen? ⟨g,0,none⟩=false/\W.frozen? ⟨g,1,none⟩=false/\W.frozen? ⟨g,2,none⟩=false/\W.frozen? ⟨g,3,none⟩=false/\W.frozen? ⟨g,4,none⟩=false:=
 ⟨by simp[World.frozen?,h],by simp[World.frozen?,h],by simp[World.frozen?,h],by simp[World.frozen?,h],by simp[World.frozen?,h]⟩
structure RTwo (w:World)(x y:Array Value)(W:World):Prop where
 r0:W.heap[w.heap.size]? =some (.cells x 85 (0,0))
 r1:W.heap[w.heap.size+1]? =some (.cells y 85 (0,0))
 below:Below w.heap.size w W
theorem RTwo.start (w:World)(x y:Array Value):RTwo w x y ((w.alloc (.cells x 85)).alloc (.cells y 85)):=⟨(cells5 _ _ _).1,(cells5 _ _ _).2.1,(cells5 _ _ _).2.2⟩
theorem RTwo.next {w W W':World}{x y:Array Value}(h:RTwo w x y W)(hb:Below W.heap.size W W'):RTwo w x y W':=
 ⟨(hb.block _ (Zg h.r0).1).trans h.r0,(hb.block _ (Zg h.r1).1).trans h.r1,h.below.trans (hb.mono h.below.size)⟩
def zR:Array Value:=#[.slice none 0 0,.int .i64 0,.int .i64 0,.int .i64 0,.int .i64 0]
def arR (ao:Option Addr)(cap:Nat)(L:List Tk)(en:Nat)(i a c:Int):Array Value:=#[.slice ao L.length cap,.int .i64 i,.int .i64 en,.int .i64 a,.int .i64 c]
theorem YkG (ao:Option Addr)(cap:Nat)(L:List Tk)(en:Nat)(i a c:Int)(s:ByteArray)(w:World)(hc:¬c=0):
 Calls Tryz.prog 47 #[rV ao cap L en i a c,.string s] w fun e w'=>e= .returned (rV ao cap L en i a c)/\Below w.heap.size w w':=by
 have h2:=RTwo.start w (arR ao cap L en i a c) zR;have hI:=fun w=>YhV ao cap L en i a c s w hc;have hF:=fun w=>YeC ao cap L en i a c 50 w hc;unfold rV at hI hF⊢;unfold arR zR at h2;clear hc;go_enter Tryz.func47,Tryz.ntmps47;go_wp2_with fail;refine(hI _).mono ?_;rintro e w1 ⟨rfl,hb1⟩;have h3:=h2.next hb1;clear h2 hb1 hI;have r0:w1.cell? ⟨w.heap.size,0,none⟩=some (.slice ao L.length cap):=by simp[World.cell?,h3.r0]
 have r1:w1.cell? ⟨w.heap.size,1,none⟩=some (.int .i64 i):=by simp[World.cell?,h3.r0]
 have r2:w1.cell? ⟨w.heap.size,2,none⟩=some (.int .i64 en):=by simp[World.cell?,h3.r0]
 have r3:w1.cell? ⟨w.heap.size,3,none⟩=some (.int .i64 a):=by simp[World.cell?,h3.r0]
 have r4:w1.cell? ⟨w.heap.size,4,none⟩=some (.int .i64 c):=by simp[World.cell?,h3.r0]
 have H3:=Zh h3;clear h3;go_wp2_with fail;refine(hF _).mono ?_;rintro e w2 ⟨rfl,hb2⟩;have h4:=H3.out.next hb2;clear hF hb2 H3 r0 r1 r2 r3 r4;have s0:w2.cell? ⟨w.heap.size+1,0,none⟩=some (.slice none 0 0):=by simp[World.cell?,h4.r1]
 have s1:w2.cell? ⟨w.heap.size+1,1,none⟩=some (.int .i64 0):=by simp[World.cell?,h4.r1]
 have s2:w2.cell? ⟨w.heap.size+1,2,none⟩=some (.int .i64 0):=by simp[World.cell?,h4.r1]
 have s3:w2.cell? ⟨w.heap.size+1,3,none⟩=some (.int .i64 0):=by simp[World.cell?,h4.r1]
 have s4:w2.cell? ⟨w.heap.size+1,4,none⟩=some (.int .i64 0):=by simp[World.cell?,h4.r1]
 have f0:w2.frozen? ⟨w.heap.size+1,0,none⟩=false:=by simp[World.frozen?,h4.r1]
 have f1:w2.frozen? ⟨w.heap.size+1,1,none⟩=false:=by simp[World.frozen?,h4.r1]
 have f2:w2.frozen? ⟨w.heap.size+1,2,none⟩=false:=by simp[World.frozen?,h4.r1]
 have f3:w2.frozen? ⟨w.heap.size+1,3,none⟩=false:=by simp[World.frozen?,h4.r1]
 have f4:w2.frozen? ⟨w.heap.size+1,4,none⟩=false:=by simp[World.frozen?,h4.r1]
 have H4:=Zh h4;clear h4;go_wp2;have n:=Yx w2 (w.heap.size+1) _ _ _ _ _ (.slice ao L.length cap) (.int .i64 i) (.int .i64 en) (.int .i64 a) (.int .i64 c) H4.out.r1;have k:=Yw w2 (w.heap.size+1) (.slice ao L.length cap) (.int .i64 i) (.int .i64 en) (.int .i64 a) (.int .i64 c);exact bodyPost_ret (YeY rfl n) rfl ⟨rfl,H4.out.below.trans (k.below H4.out.below.size (fun i hi q=>by omega))⟩
theorem YkH (ao:Option Addr)(cap:Nat)(L:List Tk)(en i:Nat)(s:ByteArray)(w:World)(hT:RTok ao L w)(hi:i<=L.length)(hL:L.length<=40000)(h7:isN L i 7 s=false):
 Calls Tryz.prog 47 #[rV ao cap L en i 0 0,.string s] w fun e w'=>(∃r,e= .returned r/\rOut ao cap L en (Yh L en i s) r)/\Below w.heap.size w w':=by
 have h2:=RTwo.start w (arR ao cap L en i 0 0) zR;have hI:=YhW ao cap L en i s _ (hT.below h2.below) hi hL;rw[h7,Bool.or_false] at hI;have hF:=fun W hb=>YaS ao cap L en i 50 W (hT.below hb) hi hL;have hM:Hid (Yh L en i s=if isN L i 6 s=true then .ok () (i+1) else .bad (Y6 L en i) (if i<L.length then 50 else 51)):=Zh (by
  unfold Yh YQ;simp)
 generalize Yh L en i s=R at hM⊢;generalize(if i<L.length then (50:Int) else 51)=C at hF hM;have HF:=Zh hF;have HO:Hid (∀r,rOut ao cap L en R r->∃r',Ending.returned r= .returned r'/\rOut ao cap L en R r'):=Zh fun r h=>⟨r,rfl,h⟩;unfold rV at hI HF;unfold rV;unfold arR zR at h2;cases hb:isN L i 6 s with
 |
  true=>
  rw[hb] at hI;have HR:Hid (R= .ok () (i+1)):=Zh (by rw[hM.out,if_pos hb]);clear hb hF hM HF hT;go_enter Tryz.func47,Tryz.ntmps47;go_wp2_with fail;refine hI.mono ?_;rintro e w1 ⟨rfl,hb1⟩;have h3:=h2.next hb1;clear h2 hb1 hI;obtain⟨r0,r1,r2,r3,r4⟩:=row5 h3.r0;obtain⟨g0,g1,g2,g3,g4⟩:=frz5 h3.r0;obtain⟨s0,s1,s2,s3,s4⟩:=row5 h3.r1;obtain⟨f0,f1,f2,f3,f4⟩:=frz5 h3.r1;have H3:=Zh h3;clear h3;go_wp2;have K:=Keep.of_setCell w1 ⟨w.heap.size,1,none⟩ (.int .i64 ((i:Int)+1));have n1:=(K.block (w.heap.size+1) (Zg H3.out.r1).1 (fun q=>by have q:w.heap.size+1=w.heap.size:=q; omega)).trans H3.out.r1;have n:=Yx (w1.setCell ⟨w.heap.size,1,none⟩ (.int .i64 ((i:Int)+1))) (w.heap.size+1) _ _ _ _ _ (.slice ao L.length cap) (.int .i64 ((i:Int)+1)) (.int .i64 en) (.int .i64 0) (.int .i64 0) n1;have k:=Yw (w1.setCell ⟨w.heap.size,1,none⟩ (.int .i64 ((i:Int)+1))) (w.heap.size+1) (.slice ao L.length cap) (.int .i64 ((i:Int)+1)) (.int .i64 en) (.int .i64 0) (.int .i64 0);have hB:Below w.heap.size w (w1.setCell ⟨w.heap.size,1,none⟩ (.int .i64 ((i:Int)+1))):=H3.out.below.setCell (Nat.le_refl _) _;refine bodyPost_ret (YeY rfl n) rfl ⟨⟨_,rfl,?_⟩,hB.trans (k.below hB.size (fun i hi q=>by omega))⟩;rw[HR.out];rfl
 |
  false=>
  rw[hb] at hI;have HR:Hid (R= .bad (Y6 L en i) C):=Zh (by rw[hM.out,hb,if_neg Zd]);have hF2:∀W,Below w.heap.size w W->Calls Tryz.prog 57 #[.agg #[.slice ao L.length cap,.int .i64 i,.int .i64 en,.int .i64 0,.int .i64 0],.int .i64 50] W fun e w'=>e= .returned (rV ao cap L en i (Y6 L en i) C)/\Below W.heap.size W w':=hF;unfold rV at hF2;have HF2:=Zh hF2;clear hb hF hM HF hT hF2;generalize Y6 L en i=H at HR HF2;go_enter Tryz.func47,Tryz.ntmps47;go_wp2_with fail;refine hI.mono ?_;rintro e w1 ⟨rfl,hb1⟩;have h3:=h2.next hb1;clear h2 hb1 hI;obtain⟨r0,r1,r2,r3,r4⟩:=row5 h3.r0;have H3:=Zh h3;clear h3;go_wp2_with fail;refine(HF2.out _ H3.out.below).mono ?_;rintro e w2 ⟨rfl,hb2⟩;have h4:=H3.out.next hb2;clear HF2 hb2 H3 r0 r1 r2 r3 r4;obtain⟨s0,s1,s2,s3,s4⟩:=row5 h4.r1;obtain⟨f0,f1,f2,f3,f4⟩:=frz5 h4.r1;have H4:=Zh h4;clear h4;go_wp2;have n:=Yx w2 (w.heap.size+1) _ _ _ _ _ (.slice ao L.length cap) (.int .i64 i) (.int .i64 en) (.int .i64 H) (.int .i64 C) H4.out.r1;have k:=Yw w2 (w.heap.size+1) (.slice ao L.length cap) (.int .i64 i) (.int .i64 en) (.int .i64 H) (.int .i64 C);refine bodyPost_ret (YeY rfl n) rfl ⟨⟨_,rfl,?_⟩,H4.out.below.trans (k.below H4.out.below.size (fun i hi q=>by omega))⟩;rw[HR.out];exact⟨_,rfl⟩
end Go.Proofs.YteamjdmhdfjopaaGreatDoor
