/- A part of the proof; it holds the texts Wrp (names and blanks shortened). -/
import Derived.Test.YteamjdmhdfjopaaGreatDoorC38
import Derived.Test.YteamjdmhdfjopaaGreatDoorC6
import Derived.Stop.RegionWithIn
import Derived.BigRegionIn
namespace Go.Proofs.YteamjdmhdfjopaaGreatDoor
open Go.RowKit
set_option maxRecDepth 100000
set_option maxHeartbeats 8000000
set_option linter.unusedVariables false
set_option linter.unusedSimpArgs false
set_option linter.unnecessarySimpa false
section
open Go.RowKit Go.Shelf
attribute [local go_sem] Oper.semAt_some
abbrev Yu:=Int×List ByteArray×Bool
def Ykl (x:Yu)(args:Array Value)(F:Nat->Prop)(W:World):Prop:=∃v,args=#[.agg #[.int .i64 x.1,v,.bool x.2.2]]/\JG W (fun k=>k<W.heap.size/\¬F k) v x.2.1
def Ss.linesB (indent:Int):Ss->List Yu
 |.nil=>[]
 |.cons l t r s k rest=>(indent,headB l t r s (k.len==0),k.len==0)::((if k.len=0 then [] else k.linesB (indent+2)++[(indent,[⟨#[125]⟩],true)])++rest.linesB indent)
def YM (indent:Int)(l:Ts)(t:List (Ts×Ts))(r s:Ts)(k:Ss):List Yu:=
 (indent,headB l t r s (k.len==0),k.len==0)::(if k.len=0 then [] else k.linesB (indent+2)++[(indent,[⟨#[125]⟩],true)])
theorem YaG (indent:Int)(l:Ts)(t:List (Ts×Ts))(r s:Ts)(k rest:Ss):Ss.linesB indent (.cons l t r s k rest)=YM indent l t r s k++rest.linesB indent:=by
 simp[Ss.linesB,YM]
def Ss.okS:Ss->Prop
 |.nil=>True
 |.cons l t r s k rest=>l.ok/\(YcK t/\t.length<=10000)/\r.ok/\s.ok/\(k.okS/\k.len<=1000000)/\rest.okS
def Yrh {α:Type}(l:Nat)(Rd:α->Array Value->(Nat->Prop)->World->Prop)(J:List α->(Nat->Prop)->World->Prop)(B0:Nat)(all:List α):Prop:=
 ∀pre x r F W1 args,all=pre++x::r->B0<=W1.heap.size->(∀k,F k->k<W1.heap.size)->J pre F W1->Rd x args F W1->
  YieldAt Fence.wide 4 Tryz.prog l args W1 fun e W'=>e= .returned (.bool true)/\∃F',J (pre++[x]) F' W'/\Grow F F' W1 W'
def WkQ (J:List Yu->(Nat->Prop)->World->Prop)(s:List Yu)(F:Nat->Prop)(W:World)(e:Ending)(W':World):Prop:=e= .returned (.bool true)/\∃F',J s F' W'/\Grow F F' W W'
def lwV (yb wb:Nat):Value:=.func (.func 152) #[] #[.pointer (some ⟨yb,0,none⟩),.pointer (some ⟨wb,0,none⟩)]
def MidL (J:List Yu->(Nat->Prop)->World->Prop)(pre:List Yu)(x:Yu)(F:Nat->Prop)(W0:World)(z:Nat)(c:Array Value)(fr:Value->Array Value):Exit->Act->World->Prop
 |.normal,a,X=>a.defers=[]/\∃v F',a.tmps=fr v/\J (pre++[x]) F' X/\Grow F F' W0 X/\X.heap[z]? =some (.cells c 39 (0,0))/\¬F' z
 |_,_,_=>False
theorem Ylx {B0 l yb:Nat}{J:List Yu->(Nat->Prop)->World->Prop}{all pre post:List Yu}{F:Nat->Prop}{W W0 w1:World}{c:Array Value}{indent:Int}{lf r sb:Ts}{t:List (Ts×Ts)}{bl:Ss}{NB:Bool}{v:Value}
 (hJ:∀s F,Stab B0 F (J s F))(hY:Yrh l Ykl J B0 all)(hall:all=pre++(YM indent lf t r sb bl++post))(hB:B0<=W.heap.size)(hF:∀k,F k->k<W.heap.size)(hJ0:J pre F W)(hb0:Below W.heap.size W W0)(hz0:W0.heap.size=W.heap.size+1)
 (hn0:W0.heap[W.heap.size]? =some (.cells c 39 (0,0)))(hNB:NB=(bl.len==0))(hown:w1.ownsRow W0.drew.heap.size 9 1 v (headB lf t r sb (bl.len==0)).length ((headB lf t r sb (bl.len==0)).map Value.string))(hb1:Below W0.drew.heap.size W0.drew w1)
 (hyl:yb<W.heap.size)(hyc:W.cell? ⟨yb,0,none⟩=some (yV l)):
 (∃va vn vc,v= .slice va vn vc)/\w1.cell? ⟨yb,0,none⟩=some (.func (.yield l) #[] #[])/\w1.cell? ⟨W.heap.size,4,none⟩=c[4]?/\
 YieldAt Fence.wide 4 Tryz.prog l #[.agg #[.int .i64 indent,v,.bool NB]] w1 fun e W'=>e= .returned (.bool true)/\∃F',J (pre++[(indent,headB lf t r sb (bl.len==0),bl.len==0)]) F' W'/\Grow F F' W W'/\W'.heap[W.heap.size]? =some (.cells c 39 (0,0))/\¬F' W.heap.size:=by
 have hbx:Below W0.heap.size W0 w1:=YbD hb1;have hbb:Below W.heap.size W w1:=hb0.trans (hbx.mono Zo);have hnn:w1.heap[W.heap.size]? =some (.cells c 39 (0,0)):=(hbx.block _ Zo).trans hn0;have hzz:W.heap.size<w1.heap.size:=(Zg hnn).1;refine⟨?_,(hbb.cell (p:=⟨yb,0,none⟩) hyl).trans hyc,by simp[World.cell?,hnn],?_⟩
 ·obtain⟨ao,cap,e,_⟩:=YZ hown;exact⟨ao,_,cap,e⟩
 ·have hSt:JG w1 (fun k=>k<w1.heap.size/\¬F k) v (headB lf t r sb (bl.len==0)):=by
   refine JG.of_owns hown (fun k e hk=>⟨(hown.lt k e).2,fun f=>?_⟩);have h1:=hF k f;have h2:W0.heap.size<=k:=hk;omega
  obtain⟨fn,tm,as',bd,hy,hRd⟩:=hY pre (indent,headB lf t r sb (bl.len==0),bl.len==0) _ F w1 _ (by rw[hall]; simp[YM]; rfl) (by have:=hbb.size; omega) (fun k e=>Nat.lt_of_lt_of_le (hF k e) hbb.size) (hJ _ F W w1 hJ0 (Keep.of_below hbb)) ⟨v,rfl,hSt⟩;rw[hNB];refine⟨fn,tm,as',bd,hy,hRd.mono ?_⟩;rintro e X ⟨rfl,F',hJ',hG⟩;have hFz:¬F W.heap.size:=fun f=>by have:=hF _ f; omega
  refine⟨rfl,F',hJ',Grow.after (Keep.of_below hbb) hG,(hG.keep.block _ hzz hFz).trans hnn,fun f=>(hG.sub _ f).elim hFz (fun e=>by omega)⟩
structure WkL (J:List Yu->(Nat->Prop)->World->Prop)(pre:List Yu)(F:Nat->Prop)(W:World)(c:Array Value)(a4:Option Addr)(bl:Ss)(ind2:Int)(wr:World)(k:Nat)(rest:Ss)(done:List Yu)(F2:Nat->Prop):Prop where
 len:k+rest.len=bl.len
 tail:rest≠.nil->∃g o,a4=some ⟨g,o,none⟩/\(g<wr.heap.size/\¬F2 g)/\rest.at wr (fun k=>k<wr.heap.size/\¬F2 k) g (o+k*5)
 lines:done++rest.linesB ind2=bl.linesB ind2
 ok:rest.okS
 sz:rest.sz<=bl.sz
 j:J (pre++done) F2 wr
 grow:Grow F F2 W wr
 box:wr.heap[W.heap.size]? =some (.cells c 39 (0,0))
 nbox:¬F2 W.heap.size
theorem WkL.next {J:List Yu->(Nat->Prop)->World->Prop}{pre:List Yu}{F:Nat->Prop}{W:World}{c:Array Value}{g o:Nat}{bl:Ss}{ind2:Int}{wr w2:World}{k:Nat}{xl:Ts}{xt:List (Ts×Ts)}{xr xs:Ts}{xb rest:Ss}{done:List Yu}{F2 F3:Nat->Prop}
 (h:WkL J pre F W c (some ⟨g,o,none⟩) bl ind2 wr k (.cons xl xt xr xs xb rest) done F2)(hj:J (pre++done++YM ind2 xl xt xr xs xb) F3 w2)(hG:Grow F2 F3 wr w2):WkL J pre F W c (some ⟨g,o,none⟩) bl ind2 w2 (k+1) rest (done++YM ind2 xl xt xr xs xb) F3:=by
 obtain⟨h1,h2,h3,h4,h5,h6,h7,h8,h9⟩:=h;simp only[Ss.len] at h1;simp only[Ss.sz] at h5;obtain⟨_,_,_,_,_,u5⟩:=h4;obtain⟨g',o',e,hg,_,_,_,_,_,hat⟩:=h2 (fun q=>by cases q);cases e;have hbz:=(Zg h8).1;have hnew:∀k,(k<wr.heap.size/\¬F2 k)->(k<w2.heap.size/\¬F3 k):=fun k q=>⟨Nat.lt_of_lt_of_le q.1 hG.keep.size,fun e=>(hG.sub k e).elim q.2 (fun e=>by omega)⟩;refine⟨by omega,fun _=>⟨g,o,rfl,hnew g hg,?_⟩,by rw[<-h3,YaG,List.append_assoc],u5,by omega,by rw[<-List.append_assoc]; exact hj,h7.trans hG,(hG.keep.block _ hbz h9).trans h8,(hnew _ ⟨hbz,h9⟩).2⟩;rw[show o+(k+1)*5=o+k*5+5 by omega];exact Ss.at_keep rest g _ (.inl hg) hat (fun i q _=>hG.keep.block i q.1 q.2) (fun i q _=>hnew i q)
theorem Yon (B0 l yb wb:Nat)(J:List Yu->(Nat->Prop)->World->Prop)(all:List Yu)(hJ:∀s F,Stab B0 F (J s F))(hY:Yrh l Ykl J B0 all):
 ∀(m:Nat) (lf:Ts) (t:List (Ts×Ts)) (r sb:Ts) (bl:Ss) (v0 v1 v2 v3 v4:Value) (indent:Int) (F:Nat->Prop) (W:World) (pre post:List Yu),bl.sz<m->all=pre++(YM indent lf t r sb bl++post)->B0<=W.heap.size->(∀k,F k->k<W.heap.size)->
  W.cell? ⟨yb,0,none⟩=some (yV l)->W.cell? ⟨wb,0,none⟩=some (lwV yb wb)->¬F yb->¬F wb->
  TsV W (fun k=>k<W.heap.size/\¬F k) v0 lf->Y3 W (fun k=>k<W.heap.size/\¬F k) v1 t->TsV W (fun k=>k<W.heap.size/\¬F k) v2 r->TsV W (fun k=>k<W.heap.size/\¬F k) v3 sb->SsV W (fun k=>k<W.heap.size/\¬F k) v4 bl->
  lf.ok->(YcK t/\t.length<=10000)->r.ok->sb.ok->(bl.okS/\bl.len<=1000000)->0<=indent->indent+2*bl.sz<=1000000000000->J pre F W->
  Calls Tryz.prog 152 #[.agg #[v0,v1,v2,v3,v4],.int .i64 indent,.pointer (some ⟨yb,0,none⟩),.pointer (some ⟨wb,0,none⟩)] W (WkQ J (pre++YM indent lf t r sb bl) F W):=by
 intro m;induction m with
 |zero=>intro lf t r sb bl v0 v1 v2 v3 v4 indent F W pre post hm; omega
 |
  succ m ih=>
  intro lf t r sb bl v0 v1 v2 v3 v4 indent F W pre post hm hall hB hF hyc hwc hny hnw h0 h1 h2 h3 h4 k0 k1 k2 k3 k4 hi0 hi1 hJ0;obtain⟨a0,c0,rfl⟩:=h0.form;obtain⟨a1,c1,rfl,_⟩:=id h1;obtain⟨a2,c2,rfl⟩:=h2.form;obtain⟨a3,c3,rfl⟩:=h3.form;obtain⟨a4,c4,rfl,_⟩:=id h4;have IH:Hid _:=ih;have HY:Hid _:=hY;have HJ:Hid _:=hJ;have HALL:=Zh hall;have HF:Hid _:=hF;have HV:=Zh (And.intro h0 (And.intro h1 (And.intro h2 (And.intro h3 h4))));have HK:=Zh (And.intro k0 (And.intro k1 (And.intro k2 (And.intro k3 k4))));have HJ0:=Zh hJ0;have HNN:=Zh (And.intro hny hnw);have HYC:=Zh hyc;have HWC:=Zh hwc;have hyl:=World.block_lt_of_cell? W _ hyc;have hwl:=World.block_lt_of_cell? W _ hwc;dsimp only at hyl hwl;have hFn:∀f,Fence.wide.fn f:=fun _=>trivial;have hblen:=k4.2;obtain⟨W0,hW0⟩:∃W0,W0=W.alloc (.cells #[.slice a0 lf.len c0,.slice a1 t.length c1,.slice a2 r.len c2,.slice a3 sb.len c3,.slice a4 bl.len c4] 39):=⟨_,rfl⟩;have hn0:W0.heap[W.heap.size]? =some (.cells #[.slice a0 lf.len c0,.slice a1 t.length c1,.slice a2 r.len c2,.slice a3 sb.len c3,.slice a4 bl.len c4] 39 (0,0)):=by rw[hW0]; exact heap_alloc_new _ _
  have hb0:Below W.heap.size W W0:=by rw[hW0]; exact below_alloc1 _ _
  have hz0:W0.heap.size=W.heap.size+1:=by rw[hW0]; simp
  have HN0:=Zh hn0;have HB0:=Zh hb0;have HZ0:=Zh hz0;have HW0:=Zh hW0;clear ih hY hJ hall hF h0 h1 h2 h3 h4 k0 k1 k2 k3 k4 hJ0 hny hnw hyc hwc hn0 hb0 hz0 hW0;go_enter Tryz.func152,Tryz.ntmps152;go_wp2_with fail;rw[<-HW0.out];obtain⟨NB,HNB⟩:∃NB,Hid (NB=(bl.len==0)):=⟨_,Zh rfl⟩;have q0:((bl.len:Int)==0)=NB:=by rw[HNB.out,Bool.eq_iff_iff,beq_iff_eq,beq_iff_eq]; omega
  refine Code.wp_mono (Q:=MidL J pre (indent,headB lf t r sb (bl.len==0),bl.len==0) F W W.heap.size #[.slice a0 lf.len c0,.slice a1 t.length c1,.slice a2 r.len c2,.slice a3 sb.len c3,.slice a4 bl.len c4] (fun v=>#[.agg #[.slice a0 lf.len c0,.slice a1 t.length c1,.slice a2 r.len c2,.slice a3 sb.len c3,.slice a4 bl.len c4],.int .i64 indent,.pointer (some ⟨yb,0,none⟩),.pointer (some ⟨wb,0,none⟩),.pointer (some ⟨W.heap.size,0,none⟩),undef,.bool false,undef,undef,.func (.yield l) #[] #[],.int .i64 indent,.agg #[.slice a0 lf.len c0,.slice a1 t.length c1,.slice a2 r.len c2,.slice a3 sb.len c3,.slice a4 bl.len c4],v,.pointer (some ⟨W.heap.size,4,none⟩),.slice a4 bl.len c4,.int .i64 bl.len,.bool NB,.agg #[.int .i64 indent,v,.bool NB],.bool true,.bool false,undef,undef,undef,undef,undef,undef,undef,undef,undef,undef,undef,undef,undef,undef,undef,undef,undef,undef,undef,undef,undef,undef,undef,undef,undef])) ?imp ?reg
  case reg=>
   refine(wpIn_wide (n:=5)).1 ?_;obtain⟨h0,h1,h2,h3,h4⟩:=HV.out;obtain⟨k0,k1,k2,k3,k4⟩:=HK.out;have kb:∀k,(k<W.heap.size/\¬F k)->k<W.heap.size->W0.drew.heap[k]? =W.heap[k]?:=fun k _ hk=>HB0.out.block k hk;have HD:=Zh (Yo6 lf r sb t _ _ _ _ a4 bl.len c4 W0.drew (h0.keep kb (fun _ _ _=>trivial)) (h1.keep kb (fun _ _ _=>trivial)) (h2.keep kb (fun _ _ _=>trivial)) (h3.keep kb (fun _ _ _=>trivial)) k0 k1.1 k2 k3 k1.2);have hn:=HN0.out;have y0:W0.cell? ⟨yb,0,none⟩=some (.func (.yield l) #[] #[]):=(HB0.out.cell (p:=⟨yb,0,none⟩) hyl).trans HYC.out;have s0:W0.cell? ⟨W.heap.size,0,none⟩=some (.slice a0 lf.len c0):=by simp[World.cell?,hn]
   have s1:W0.cell? ⟨W.heap.size,1,none⟩=some (.slice a1 t.length c1):=by simp[World.cell?,hn]
   have s2:W0.cell? ⟨W.heap.size,2,none⟩=some (.slice a2 r.len c2):=by simp[World.cell?,hn]
   have s3:W0.cell? ⟨W.heap.size,3,none⟩=some (.slice a3 sb.len c3):=by simp[World.cell?,hn]
   have s4:W0.cell? ⟨W.heap.size,4,none⟩=some (.slice a4 bl.len c4):=by simp[World.cell?,hn]
   have HFIN:=Zh (fun(w1:World) (v:Value) (hq:(w1.ownsRow W0.drew.heap.size 9 1 v (headB lf t r sb (bl.len==0)).length ((headB lf t r sb (bl.len==0)).map Value.string))/\Below W0.drew.heap.size W0.drew w1)=>
    Ylx HJ.out HY.out HALL.out hB HF.out HJ0.out HB0.out HZ0.out HN0.out HNB.out hq.1 hq.2 hyl HYC.out)
   clear h0 h1 h2 h3 h4 k0 k1 k2 k3 k4 kb hn;gi_region_with (first
    |(
      refine(callsIn_wide.2 HD.out).mono ?_;rintro e w1 ⟨⟨v,rfl,hown⟩,hb1⟩;obtain⟨⟨va,vn,vc,rfl⟩,y0,s4,fn,tm,as',bd,hy,hRd⟩:=HFIN.out w1 v ⟨hown,hb1⟩;have HRd:=Zh hRd;clear hRd hown hb1)
    |(
      refine(Ycj HRd.out).mono ?_;rintro e X ⟨rfl,F',hJ',hG,hbx,hnz⟩))
   all_goals exact⟨rfl,_,F',rfl,hJ',hG,hbx,hnz⟩
  case imp=>
   intro e a' X hm;cases e with
   |
    normal=>
    obtain⟨hd,v,F1,ha,hJ1,hG1,hbx,hnz⟩:=hm;obtain⟨tm9,df9⟩:=a';dsimp only at hd ha;subst hd ha;have s4:X.cell? ⟨W.heap.size,4,none⟩=some (.slice a4 bl.len c4):=by simp[World.cell?,hbx]
    obtain⟨_,_,_,_,h4⟩:=HV.out;obtain⟨_,_,_,_,k4⟩:=HK.out;have hst:Hid (WkL J (pre++[(indent,headB lf t r sb (bl.len==0),bl.len==0)]) F W #[.slice a0 lf.len c0,.slice a1 t.length c1,.slice a2 r.len c2,.slice a3 sb.len c3,.slice a4 bl.len c4] a4 bl (indent+2) X 0 bl [] F1):=Zh ⟨Nat.zero_add _,fun q=>by
     obtain⟨a,c,e,hh⟩:=h4;cases e;obtain⟨g,o,e2,hg,hat⟩:=hh q;have hnew:∀k,(k<W.heap.size/\¬F k)->(k<X.heap.size/\¬F1 k):=fun k q=>⟨Nat.lt_of_lt_of_le q.1 hG1.keep.size,fun e=>(hG1.sub k e).elim q.2 (fun e=>by omega)⟩;exact⟨g,o,e2,hnew g hg,by rw[Nat.zero_mul,Nat.add_zero]; exact Ss.at_keep bl g o (.inl hg) hat (fun i q _=>hG1.keep.block i q.1 q.2) (fun i q _=>hnew i q)⟩,rfl,k4.1,Nat.le_refl _,by rw[List.append_nil]; exact hJ1,hG1,hbx,hnz⟩
    clear hJ1 hG1 hbx hnz h4 k4 q0;go_wp2_with fail;go_loopw [23] (fun i wr=>∃(k:Nat) (rest:Ss) (done:List Yu) (F2:Nat->Prop),i= .int .i64 k/\Hid (WkL J (pre++[(indent,headB lf t r sb (bl.len==0),bl.len==0)]) F W #[.slice a0 lf.len c0,.slice a1 t.length c1,.slice a2 r.len c2,.slice a3 sb.len c3,.slice a4 bl.len c4] a4 bl (indent+2) wr k rest done F2)) (fun i _=>bl.len - (intOf i).toNat)
    case atStart=>exact⟨0,bl,[],F1,rfl,hst⟩
    case round=>
     obtain⟨k,rest,done,F2,rfl,HS⟩:=hrel;clear hst s4;cases rest with
     |
      nil=>
      have hk:k=bl.len:=by have:=HS.out.len; simpa[Ss.len] using this
      have l0:decide ((k:Int)<(bl.len:Int))=false:=Zf;have HD9:Hid (done=bl.linesB (indent+2)):=Zh (by have:=HS.out.lines; simpa[Ss.linesB] using this);have hbx:=HS.out.box;have s4:wr.cell? ⟨W.heap.size,4,none⟩=some (.slice a4 bl.len c4):=by simp[World.cell?,hbx]
      have y0:wr.cell? ⟨yb,0,none⟩=some (.func (.yield l) #[] #[]):=(HS.out.grow.keep.cell (p:=⟨yb,0,none⟩) hyl HNN.out.1).trans HYC.out;have hwz:=HS.out.grow.keep.size;subst hk;by_cases hb0:bl.len=0
      ·have q0:((bl.len:Int)==0)=true:=by rw[beq_iff_eq]; omega
       have HQ:Hid (WkQ J (pre++YM indent lf t r sb bl) F W (.returned (.bool true)) wr):=Zh ⟨rfl,F2,by
        have:=HS.out.j;have hl0:bl.linesB (indent+2)=[]:=by
         cases bl with
         |nil=>rfl
         |cons=>simp[Ss.len] at hb0
        have e:YM indent lf t r sb bl=[(indent,headB lf t r sb (bl.len==0),bl.len==0)]:=by unfold YM; rw[if_pos hb0]
        rw[HD9.out,hl0,List.append_nil] at this;rw[e];exact this,HS.out.grow⟩
       clear hb0 hbx;go_wp2_with fail;go_ret;exact HQ.out
      ·have q0:((bl.len:Int)==0)=false:=by rw[beq_eq_false_iff_ne]; omega
       obtain⟨V,hV⟩:∃V,V=wr.alloc (.cells #[.string ⟨#[125]⟩] 9):=⟨_,rfl⟩;have hVn:V.heap[wr.heap.size]? =some (.cells #[.string ⟨#[125]⟩] 9 (0,0)):=by rw[hV]; exact heap_alloc_new _ _
       have hVb:Below wr.heap.size wr V:=by rw[hV]; exact below_alloc1 _ _
       have hVz:V.heap.size=wr.heap.size+1:=by rw[hV]; simp
       have hone:YM indent lf t r sb bl=(indent,headB lf t r sb (bl.len==0),bl.len==0)::(bl.linesB (indent+2)++[(indent,[⟨#[125]⟩],true)]):=by unfold YM; rw[if_neg hb0]
       have hJV:J (pre++[(indent,headB lf t r sb (bl.len==0),bl.len==0)]++done) F2 V:=HJ.out _ F2 wr V HS.out.j (Keep.of_below hVb);have hFl:=HS.out.grow.lt;have hst2:JG V (fun k=>k<V.heap.size/\¬F2 k) (.slice (some ⟨wr.heap.size,0,none⟩) 1 1) [⟨#[125]⟩]:=⟨some ⟨wr.heap.size,0,none⟩,1,rfl,fun _=>⟨wr.heap.size,0,rfl,⟨by omega,fun f=>by have:=hFl _ f; omega⟩,⟨by simp[World.cell?,hVn],trivial⟩,by simp⟩⟩;obtain⟨fn,tm,as',bd,hy,hRd⟩:=HY.out (pre++[(indent,headB lf t r sb (bl.len==0),bl.len==0)]++done) (indent,[⟨#[125]⟩],true) post F2 V _ (by rw[HALL.out,hone,HD9.out]; simp) (by have:=hVb.size; omega) (fun k e=>by have:=hFl k e; omega) hJV ⟨_,rfl,hst2⟩;dsimp only at hy;rw[hV] at hy;have hyw:yb<wr.heap.size:=Zo;have HRd:=Zh hRd;have HG:=Zh (Grow.trans HS.out.grow (Grow.after (Keep.of_below hVb) (Grow.refl (F:=F2) (X:=V) (fun k e=>by have:=hFl k e; omega))));have HV9:=Zh hV;have HONE:=Zh hone;clear hb0 hbx hVn hVb hVz hone hJV hFl hst2 hRd hV;go_upto_region 9 with(fail)
       refine(wpIn_wide (n:=5)).1 ?_;gi_wp2_with fail
       rw[<-HV9.out];refine(Ycj HRd.out).mono ?_;rintro e Y ⟨rfl,F',hJ',hG'⟩;have HQ:Hid (WkQ J (pre++YM indent lf t r sb bl) F W (.returned (.bool true)) Y):=Zh ⟨rfl,F',by
        rw[HONE.out,<-HD9.out];simpa using hJ',HG.out.trans hG'⟩
       clear hJ' hG' HRd;gi_wp2_with fail
       go_wp2_with fail;go_ret;exact HQ.out
     |
      cons xl xt xr xs xb rest=>
      have hkl:=HS.out.len;simp only[Ss.len] at hkl;have l0:decide ((k:Int)<(bl.len:Int))=true:=Zt;have l1:decide (k<bl.len)=true:=Zt;obtain⟨g,o,rfl,hg,⟨v0,p0,hv0⟩,⟨v1,p1,hv1⟩,⟨v2,p2,hv2⟩,⟨v3,p3,hv3⟩,⟨a5,c5,p4,hv4⟩,hrest⟩:=HS.out.tail (fun q=>by cases q);obtain⟨u0,u1,u2,u3,u4,u5⟩:=HS.out.ok;have hsz:=HS.out.sz;simp only[Ss.sz] at hsz;have hgw:g<wr.heap.size:=hg.1;obtain⟨av0,cv0,rfl⟩:=hv0.form;obtain⟨av1,cv1,rfl,hh1⟩:=hv1;obtain⟨av2,cv2,rfl⟩:=hv2.form;obtain⟨av3,cv3,rfl⟩:=hv3.form;have hwz:=HS.out.grow.keep.size;have hFl:=HS.out.grow.lt;have hbne:bl.len≠0:=Zo;have wc9:wr.cell? ⟨wb,0,none⟩=some (.func (.func 152) #[] #[.pointer (some ⟨yb,0,none⟩),.pointer (some ⟨wb,0,none⟩)]):=(HS.out.grow.keep.cell (p:=⟨wb,0,none⟩) hwl HNN.out.2).trans HWC.out;have yc9:wr.cell? ⟨yb,0,none⟩=some (yV l):=(HS.out.grow.keep.cell (p:=⟨yb,0,none⟩) hyl HNN.out.1).trans HYC.out;obtain⟨V,hV⟩:∃V,V=wr.alloc (.cells #[.slice av0 xl.len cv0,.slice av1 xt.length cv1,.slice av2 xr.len cv2,.slice av3 xs.len cv3,.slice a5 xb.len c5] 39):=⟨_,rfl⟩;have hVb:Below wr.heap.size wr V:=by rw[hV]; exact below_alloc1 _ _
      have hVz:V.heap.size=wr.heap.size+1:=by rw[hV]; simp
      have hone:YM indent lf t r sb bl=(indent,headB lf t r sb (bl.len==0),bl.len==0)::(bl.linesB (indent+2)++[(indent,[⟨#[125]⟩],true)]):=by unfold YM; rw[if_neg hbne]
      have hal:all=(pre++[(indent,headB lf t r sb (bl.len==0),bl.len==0)]++done)++(YM (indent+2) xl xt xr xs xb++(rest.linesB (indent+2)++((indent,[⟨#[125]⟩],true)::post))):=by
       rw[HALL.out,hone,<-HS.out.lines,YaG]; simp
      have kb:∀k,(k<wr.heap.size/\¬F2 k)->k<wr.heap.size->V.heap[k]? =wr.heap[k]?:=fun k q _=>hVb.block k q.1;have kn:∀k,(k<wr.heap.size/\¬F2 k)->k<wr.heap.size->(k<V.heap.size/\¬F2 k):=fun k q _=>⟨by omega,q.2⟩;have hnF:¬F2 yb/\¬F2 wb:=⟨fun f=>(HS.out.grow.sub _ f).elim HNN.out.1 (fun e=>by omega),fun f=>(HS.out.grow.sub _ f).elim HNN.out.2 (fun e=>by omega)⟩;have HI:=Zh (IH.out xl xt xr xs xb _ _ _ _ _ (indent+2) F2 V (pre++[(indent,headB lf t r sb (bl.len==0),bl.len==0)]++done) _ Zo hal (by have:=hVb.size; omega) (fun k e=>by have:=hFl k e; omega)
       ((hVb.cell (p:=⟨yb,0,none⟩) (by show yb<_; omega)).trans yc9) ((hVb.cell (p:=⟨wb,0,none⟩) (by show wb<_; omega)).trans wc9) hnF.1 hnF.2
       (hv0.keep kb kn) (Y3.keep (w:=wr) ⟨av1,cv1,rfl,hh1⟩ kb kn) (hv2.keep kb kn) (hv3.keep kb kn) (SsV.keep (w:=wr) ⟨a5,c5,rfl,hv4⟩ kb kn) u0 u1 u2 u3 u4 Zo Zo (HJ.out _ F2 wr V HS.out.j (Keep.of_below hVb)))
      have HV9:=Zh hV;have HVB:=Zh hVb;have hww:wb<wr.heap.size:=Zo;have i0:(0:Int)<=indent+2:=Zo;have i1:indent+2<=1000000000002:=Zo;clear hv0 hv2 hv3 hh1 hv4 hrest u0 u1 u2 u3 u4 u5 hV hVb hVz hone hal kb kn hnF yc9 hFl hbne hg;unfold lwV at HI;go_wp2_with fail;rw[<-HV9.out];refine HI.out.mono ?_;rintro e Y ⟨rfl,F3,hJ3,hG3⟩;have HN9:=Zh (HS.out.next hJ3 (Grow.after (Keep.of_below HVB.out) hG3));clear hJ3 hG3 HI p0 p1 p2 p3 p4;go_wp2_with fail;go_roundw
      case rel=>exact⟨k+1,rest,_,F3,by go_num,HN9⟩
      case measure=>simp[intOf]; omega
   |ret=>exact hm.elim
   |exit _=>exact hm.elim
   |goto _=>exact hm.elim
   |panic _=>exact hm.elim
   |outgrown=>exact hm.elim
end
end Go.Proofs.YteamjdmhdfjopaaGreatDoor
