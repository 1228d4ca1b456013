/- A part of the proof; it holds the texts Rfl Rfm Rfn (names and blanks shortened). -/
import Derived.Test.YteamjdmhdfjopaaGreatDoorM39
import Derived.Test.YteamjdmhdfjopaaGreatDoorM18
import Derived.Deep.RegionLaw
import Derived.BigRegion
namespace Go.Proofs.YteamjdmhdfjopaaGreatDoor
open Go.RowKit
set_option maxRecDepth 100000
set_option maxHeartbeats 8000000
set_option linter.unusedVariables false
set_option linter.unusedSimpArgs false
set_option linter.unnecessarySimpa false
def YdO (ao:Option Addr)(cap:Nat)(L:List Tk)(en:Nat)(R:Rd Ss)(w:World)(e:Ending)(w':World):Prop:=
 Below w.heap.size w w'/\∃r' v b,e= .returned (.tuple #[r',v])/\rSt ao cap L en R r'/\SsV w' (fun k=>w.heap.size<=k) v b/\(∀x j,R= .ok x j->b=x)
def Yip (ao:Option Addr)(cap:Nat)(L:List Tk)(en:Nat)(R:Rd Ss)(w:World)(e:Ending)(w':World):Prop:=
 Below w.heap.size w w'/\∃r' v0 v1 v2 v3 v4 s,e= .returned (.tuple #[r',.agg #[v0,v1,v2,v3,v4]])/\rSt ao cap L en R r'/\Ss.flat w' (fun k=>w.heap.size<=k) s [v0,v1,v2,v3,v4]/\s.len=1/\(∀x j,R= .ok x j->s=x)
structure RnS (ao:Option Addr)(cap:Nat)(L:List Tk)(en:Nat)(w wr:World)(G:Nat)(v0 v1 v2 v3 v4:Value)(left:Ts)(tests:List (Ts×Ts))(i a c:Int):Prop where
 fr:Fr w wr [(#[.slice ao L.length cap,.int .i64 i,.int .i64 en,.int .i64 a,.int .i64 c],85),(#[.slice none 0 0,.int .i64 0,.int .i64 0,.int .i64 0,.int .i64 0],85),(#[.slice none 0 0,.slice none 0 0,.slice none 0 0,.slice none 0 0,.slice none 0 0],39),(#[v0,v1,v2,v3,v4],39)]
 low:w.heap.size+4<=G
 high:G<=wr.heap.size
 left:TsV wr (fun k=>w.heap.size+4<=k/\k<G) v0 left
 own:OwnR wr G 104 2 v1 tests.length (YcE tests)
section
variable {ao:Option Addr}{cap:Nat}{L:List Tk}{en:Nat}{w wr w1 w3:World}{G:Nat}{v0 v1 v2 v3 v4 u:Value}{left:Ts}{tests:List (Ts×Ts)}{i a c:Int}{y:Ts×Ts}
theorem RnS.turn {D:Nat->Prop}{i' a' c':Int}{u0 u1 u2 u3 u4:Value}(h:RnS ao cap L en w wr G v0 v1 v2 v3 v4 left tests i a c)(hK:Keep D wr w1)(hD:∀k,D k->k<w.heap.size+4)(h0:u0=v0)(h1:u1=v1)(hf:Fr w w1 [(#[.slice ao L.length cap,.int .i64 i',.int .i64 en,.int .i64 a',.int .i64 c'],85),(#[.slice none 0 0,.int .i64 0,.int .i64 0,.int .i64 0,.int .i64 0],85),(#[.slice none 0 0,.slice none 0 0,.slice none 0 0,.slice none 0 0,.slice none 0 0],39),(#[u0,u1,u2,u3,u4],39)]):
 RnS ao cap L en w w1 G v0 v1 u2 u3 u4 left tests i' a' c':=by
 subst h0 h1;have hl:=h.low;exact⟨hf,h.low,Nat.le_trans h.high hK.size,h.left.keep (fun k q hk=>hK.block k hk (fun e=>by have:=hD k e; omega)) (fun _ q _=>q),h.own.keep (Jf _) hK (fun k q=>by have:=hD k q; omega)⟩
theorem RnS.push (h:RnS ao cap L en w wr G v0 v1 v2 v3 v4 left tests i a c)(hK:Keep (fun k=>v1.ownBlock=some k) wr w3)(hO:OwnR w3 G 104 2 u (tests.length+1) (YcE (tests++[y]))):
 RnS ao cap L en w (w3.setCell ⟨w.heap.size+3,1,none⟩ u) G v0 u v2 v3 v4 left (tests++[y]) i a c:=by
 have hl:=h.low;have hb:∀k,v1.ownBlock=some k->G<=k:=fun k q=>(h.own.own_lt k q).1;have hK2:=Keep.of_setCell w3 ⟨w.heap.size+3,1,none⟩ u;have hf:=(h.fr.keep hK (fun k q=>Nat.le_trans hl (hb k q))).setCellAt 3 rfl 1 u rfl;refine⟨hf,hl,Nat.le_trans h.high (Nat.le_trans hK.size hK2.size),(h.left.keep (fun k q hk=>hK.block k hk (fun e=>by have:=hb k e; omega)) (fun _ q _=>q)).keep (fun k q hk=>hK2.block k hk (by show ¬k=w.heap.size+3; omega)) (fun _ q _=>q),?_⟩;rw[List.length_append,List.length_singleton];exact hO.keep (Jf _) hK2 (fun k q=>by have:k=w.heap.size+3:=q; omega)
theorem RnS.done {w':World}{b1 b2:Nat}{right subject:Ts}{block:Ss}(h:RnS ao cap L en w wr G v0 v1 v2 v3 v4 left tests i a c)(hr:TsV wr (fun k=>w.heap.size+4<=k) v2 right)(hs:TsV wr (fun k=>w.heap.size+4<=k) v3 subject)(hb:SsV wr (fun k=>w.heap.size+4<=k) v4 block)
 (e1:w.heap.size+1=b1)(e2:w.heap.size+1+1=b2)(hK:Keep (fun k=>k=b1\/k=b2) wr w'):Below w.heap.size w w'/\Ss.flat w' (fun k=>w.heap.size<=k) (.cons left tests right subject block .nil) [v0,v1,v2,v3,v4]:=by
 have hl:=h.low;refine⟨h.fr.below.trans (hK.below h.fr.below.size (fun k hk q=>by omega)),v0,v1,v2,v3,v4,[],rfl,?_,?_,?_,?_,?_,rfl⟩
 ·exact h.left.keep (fun k q hk=>hK.block k hk Zo) (fun k q _=>by omega)
 ·exact h.own.testsV.keep (fun k q hk=>hK.block k hk Zo) (fun k q _=>by omega)
 ·exact hr.keep (fun k q hk=>hK.block k hk Zo) (fun k q _=>by omega)
 ·exact hs.keep (fun k q hk=>hK.block k hk Zo) (fun k q _=>by omega)
 ·exact hb.keep (fun k q hk=>hK.block k hk Zo) (fun k q _=>by omega)
end
structure Ev (w:World)(bs:List World)(w1:World)(rc sc:Array Value):Prop where
 fr:Fr w w1 [(rc,85),(#[.slice none 0 0,.int .i64 0,.int .i64 0,.int .i64 0,.int .i64 0],85),(#[.slice none 0 0,.slice none 0 0,.slice none 0 0,.slice none 0 0,.slice none 0 0],39),(sc,39)]
 keep:∀b∈bs,Keep (fun k=>k<w.heap.size+4) b w1
section
variable {w w1 w2:World}{bs:List World}{rc sc rc' sc':Array Value}
theorem Ev.turn {D:Nat->Prop}(h:Ev w bs w1 rc sc)(hK:Keep D w1 w2)(hD:∀b∈bs,∀k,D k->k<w.heap.size+4\/b.heap.size<=k)(hf:Fr w w2 [(rc',85),(#[.slice none 0 0,.int .i64 0,.int .i64 0,.int .i64 0,.int .i64 0],85),(#[.slice none 0 0,.slice none 0 0,.slice none 0 0,.slice none 0 0,.slice none 0 0],39),(sc',39)]):Ev w bs w2 rc' sc':=
 ⟨hf,fun b hb=>(h.keep b hb).trans hK (fun k hk q=>(hD b hb k q).elim id (fun e=>by omega))⟩
theorem Ev.next (h:Ev w bs w1 rc sc)(hb:Below w1.heap.size w1 w2):Ev w bs w2 rc sc:=h.turn (Keep.of_below (S:=fun _=>False) hb) (fun _ _ _ q=>q.elim) (h.fr.next hb)
theorem Ev.base (h:Ev w bs w1 rc sc):Ev w (w1::bs) w1 rc sc:=⟨h.fr,fun b hb=>by
 rcases List.mem_cons.1 hb with rfl | hb
 ·exact Keep.refl _ _
 ·exact h.keep b hb⟩
theorem Ev.setR (h:Ev w bs w1 rc sc)(new:Array Value):Ev w bs (w1.setRow w.heap.size new) new sc:=
 h.turn (Keep.of_setRow w1 w.heap.size new) (fun _ _ k q=>by have q:k=w.heap.size:=q; omega) (h.fr.setRowAt 0 rfl new rfl)
theorem Ev.setI (h:Ev w bs w1 rc sc)(v:Value):Ev w bs (w1.setCell ⟨w.heap.size,1,none⟩ v) (rc.setIfInBounds 1 v) sc:=
 h.turn (Keep.of_setCell w1 ⟨w.heap.size,1,none⟩ v) (fun _ _ k q=>by have q:k=w.heap.size:=q; omega) (h.fr.setCellAt 0 rfl 1 v rfl)
theorem Ev.setS (h:Ev w bs w1 rc sc){b:Nat}(hb:w.heap.size+1+1+1=b)(o:Nat)(v:Value):Ev w bs (w1.setCell ⟨b,o,none⟩ v) rc (sc.setIfInBounds o v):=
 h.turn (Keep.of_setCell w1 ⟨b,o,none⟩ v) (fun _ _ k q=>by have q:k=b:=q; omega) (h.fr.setCellAt 3 hb o v rfl)
theorem RnS.of_ev {ao:Option Addr}{cap:Nat}{L:List Tk}{en:Nat}{wr:World}{G:Nat}{v0 v1 v2 v3 v4 u2 u3 u4:Value}{left:Ts}{tests:List (Ts×Ts)}{i a c i' a' c':Int}(h:RnS ao cap L en w wr G v0 v1 v2 v3 v4 left tests i a c)
 (E:Ev w bs w1 #[.slice ao L.length cap,.int .i64 i',.int .i64 en,.int .i64 a',.int .i64 c'] #[v0,v1,u2,u3,u4])(hw:wr∈bs):RnS ao cap L en w w1 G v0 v1 u2 u3 u4 left tests i' a' c':=
 h.turn (E.keep wr hw) (fun k q=>q) rfl rfl E.fr
end
theorem Ygx (a0 a1 a2 a3 a4:Option Addr)(n0 n1 n2 n3 n4 c0 c1 c2 c3 c4:Nat):(#[.slice a0 n0 c0,.slice a1 n1 c1,.slice a2 n2 c2,.slice a3 n3 c3,.slice a4 n4 c4]:Array Value).all (·.oneCell')=true:=by simp[Value.oneCell']
theorem row2 {W:World}{g:Nat}{a b:Value}{t:TypeId}(h:W.heap[g]? =some (.cells #[a,b] t (0,0))):W.cell? ⟨g,0,none⟩=some a/\W.cell? ⟨g,1,none⟩=some b:=⟨by simp[World.cell?,h],by simp[World.cell?,h]⟩
theorem frz2 {W:World}{g:Nat}{a b:Value}{t:TypeId}(h:W.heap[g]? =some (.cells #[a,b] t (0,0))):W.frozen? ⟨g,0,none⟩=false/\W.frozen? ⟨g,1,none⟩=false:=⟨by simp[World.frozen?,h],by simp[World.frozen?,h]⟩
theorem Ye2 {W:World}{b:Nat}{x:Option Obj}(h:W.heap[b]? =x):W.drew.heap[b]? =x:=h
theorem Ycu {D:Nat->Prop}{a b:World}(h:Keep D a b):Keep D a b.drew:=h.trans (Keep.of_drewN (S:=fun _=>False) b 1) (fun _ _ q=>q.elim)
theorem Yf5 {W:World}{b1 b2:Nat}{o1 o2:TypeId}{s0 s1 s2 s3 s4 u0 u1 u2 u3 u4:Value}(hne:¬b1=b2)(h1:W.heap[b1]? =some (.cells #[s0,s1,s2,s3,s4] o1 (0,0)))(h2:W.heap[b2]? =some (.cells #[u0,u1,u2,u3,u4] o2 (0,0)))(a b c d e a' b' c' d' e':Value):
 ((((((((((W.setCell ⟨b1,0,none⟩ a).setCell ⟨b1,1,none⟩ b).setCell ⟨b1,2,none⟩ c).setCell ⟨b1,3,none⟩ d).setCell ⟨b1,4,none⟩ e).setCell ⟨b2,0,none⟩ a').setCell ⟨b2,1,none⟩ b').setCell ⟨b2,2,none⟩ c').setCell ⟨b2,3,none⟩ d').setCell ⟨b2,4,none⟩ e').heap[b1]? =some (.cells #[a,b,c,d,e] o1 (0,0))/\
 ((((((((((W.setCell ⟨b1,0,none⟩ a).setCell ⟨b1,1,none⟩ b).setCell ⟨b1,2,none⟩ c).setCell ⟨b1,3,none⟩ d).setCell ⟨b1,4,none⟩ e).setCell ⟨b2,0,none⟩ a').setCell ⟨b2,1,none⟩ b').setCell ⟨b2,2,none⟩ c').setCell ⟨b2,3,none⟩ d').setCell ⟨b2,4,none⟩ e').heap[b2]? =some (.cells #[a',b',c',d',e'] o2 (0,0))/\
 Keep (fun k=>k=b1\/k=b2) W ((((((((((W.setCell ⟨b1,0,none⟩ a).setCell ⟨b1,1,none⟩ b).setCell ⟨b1,2,none⟩ c).setCell ⟨b1,3,none⟩ d).setCell ⟨b1,4,none⟩ e).setCell ⟨b2,0,none⟩ a').setCell ⟨b2,1,none⟩ b').setCell ⟨b2,2,none⟩ c').setCell ⟨b2,3,none⟩ d').setCell ⟨b2,4,none⟩ e'):=by
 have n1:=Yx W b1 _ _ _ _ _ a b c d e h1;have k1:=Yw W b1 a b c d e;have n2:=(k1.block b2 (Zg h2).1 (fun q=>hne q.symm)).trans h2;generalize((((W.setCell ⟨b1,0,none⟩ a).setCell ⟨b1,1,none⟩ b).setCell ⟨b1,2,none⟩ c).setCell ⟨b1,3,none⟩ d).setCell ⟨b1,4,none⟩ e=V at n1 k1 n2⊢;have k2:=Yw V b2 a' b' c' d' e';exact⟨(k2.block b1 (Zg n1).1 hne).trans n1,Yx V b2 _ _ _ _ _ _ _ _ _ _ n2,(k1.mono (T:=fun k=>k=b1\/k=b2) (fun _ _ q=>.inl q)).trans k2 (fun _ _ q=>.inr q)⟩
def SenQ (L:List Tk)(b1 b2:Nat){α:Type}(X:Rd α)(ao:Option Addr)(cap en:Nat)(V:Array Value)(W:World):Exit->Act->World->Prop
 |
  .normal,a',w'=>a'.tmps[4]? =some (.pointer (some ⟨b1,0,none⟩))/\a'.tmps[5]? =some (.pointer (some ⟨b2,0,none⟩))/\a'.defers=[]/\
  ∃i a c:Int,StOk L X i a c/\w'.heap[b1]? =some (.cells #[.slice ao L.length cap,.int .i64 i,.int .i64 en,.int .i64 a,.int .i64 c] 85 (0,0))/\w'.heap[b2]? =some (.cells V 39 (0,0))/\Keep (fun k=>k=b1\/k=b2) W w'
 |_,_,_=>False
def YoG (ao:Option Addr)(cap:Nat)(L:List Tk)(en blocks i0:Nat)(R:Rd Ss)(w:World)(wr:World):Prop:=
 ∃(G:Nat) (v0 v1:Value) (left:Ts) (tests:List (Ts×Ts)) (i a c:Int) (n:Nat) (Y:Rd Unit),RnS ao cap L en w wr G v0 v1 (.slice none 0 0) (.slice none 0 0) (.slice none 0 0) left tests i a c/\StOk L Y i a c/\Ynv L en n blocks left tests Y=R/\(∀u j,Y= .ok u j->i0<=j/\L.length - j+1<=n/\tests.length<=j)/\tests.length<=50000/\0<n
theorem RnS.m {ao:Option Addr}{cap:Nat}{L:List Tk}{en:Nat}{w wr:World}{G:Nat}{v0 v1 v2 v3 v4:Value}{left:Ts}{tests:List (Ts×Ts)}{i a c:Int}(h:RnS ao cap L en w wr G v0 v1 v2 v3 v4 left tests i a c):rtM w.heap.size L.length wr=if c=0 then L.length+1 - i.toNat else 0:=by
 obtain⟨_,r1,_,_,r4⟩:=row5 (h.fr.at 0 (b:=w.heap.size) rfl rfl);unfold rtM;rw[r1,r4]
theorem Yb2 (ao:Option Addr)(cap:Nat)(L:List Tk)(en blocks i0 n0:Nat){α:Type}(X:Rd α)(r:Value)(w:World)(hL:RL L)(hX:rSt ao cap L en X r)(hT:RTok ao L w)(hblocks:blocks<=6)(hi0:∀x i,X= .ok x i->i=i0)(hn0:∀x i,X= .ok x i->L.length - i+1<=n0)(hn00:0<n0)
 (IH:blocks<6->∀(n i:Nat) (w':World),i0<i->i<=L.length->L.length - i+3<=n->RTok ao L w'->Calls Tryz.prog 48 #[rV ao cap L en i 0 0,.int .i64 ((blocks:Int)+1)] w' (YdO ao cap L en (YM L en n (blocks+1) i) w')):
 Calls Tryz.prog 56 #[r,.int .i64 blocks] w (Yip ao cap L en (X.bind fun _ i=>Yg L en n0 blocks i) w):=by
 obtain⟨i,a,c,rfl,hst⟩:=hX;have hX:rSt ao cap L en X (rV ao cap L en i a c):=⟨i,a,c,rfl,hst⟩;have HX:=Zh hX;have HTK:=Zh hT;have HL:=Zh hL;have HI:Hid _:=IH;have HN0:=Zh (And.intro hn0 hi0);clear hst hX hT hL IH hn0 hi0;obtain⟨W0,hW0⟩:∃W0,W0=(((w.alloc (.cells #[.slice ao L.length cap,.int .i64 i,.int .i64 en,.int .i64 a,.int .i64 c] 85)).alloc (.cells #[.slice none 0 0,.int .i64 0,.int .i64 0,.int .i64 0,.int .i64 0] 85)).alloc (.cells #[.slice none 0 0,.slice none 0 0,.slice none 0 0,.slice none 0 0,.slice none 0 0] 39)).alloc (.cells #[.slice none 0 0,.slice none 0 0,.slice none 0 0,.slice none 0 0,.slice none 0 0] 39):=⟨_,rfl⟩;have hF:Fr w W0 [(#[.slice ao L.length cap,.int .i64 i,.int .i64 en,.int .i64 a,.int .i64 c],85),(#[.slice none 0 0,.int .i64 0,.int .i64 0,.int .i64 0,.int .i64 0],85),(#[.slice none 0 0,.slice none 0 0,.slice none 0 0,.slice none 0 0,.slice none 0 0],39),(#[.slice none 0 0,.slice none 0 0,.slice none 0 0,.slice none 0 0,.slice none 0 0],39)]:=by
  rw[hW0];exact((((Fr.start w).alloc Zs _ _).alloc Zs _ _).alloc Zs _ _).alloc Zs _ _
 have hE:=Yd6 ao cap L en true HL.out X _ W0 HX.out (HTK.out.below hF.below);have hE:Calls Tryz.prog 104 #[rV ao cap L en i a c,.bool false] W0 (Yis ao cap L en true X W0):=hE;unfold rV at hE;generalize hR:(X.bind fun _ i=>Yg L en n0 blocks i)=R;have HR:=Zh hR;clear hR;unfold rV;go_enter Tryz.func56,Tryz.ntmps56;go_wp2_with fail;rw[<-hW0];clear hW0;generalize e3:w.heap.size+1+1+1=b3;generalize e2:w.heap.size+1+1=b2;generalize e1:w.heap.size+1=b1;have n30:¬b3=w.heap.size:=Zo;have n03:¬w.heap.size=b3:=Zo;refine hE.mono ?_;clear hE;rintro e w1 ⟨hb1,r',v,l,rfl,hX1,hv,hl⟩;obtain⟨j,a1,c1,rfl,hst⟩:=hX1;obtain⟨aov,capv,rfl⟩:=hv.form;have HST:=Zh hst;have HV:=Zh hv;have HLL:=Zh hl;have HB0:Hid (w.heap.size+4<=W0.heap.size):=Zh hF.size;have HF1:=Zh (hF.next hb1);clear hst hv hl hb1 hF;unfold rV;go_wp2_with (
  refine wpList_store_row rfl 85 (.tmp 2) (.tmp 13) rfl w.heap.size #[.slice ao L.length cap,.int .i64 j,.int .i64 en,.int .i64 a1,.int .i64 c1] rfl rfl 85 _ (HF1.out.at 0 rfl rfl) Yy rfl (YR _ _ _ _ _ _ _ _) ?_;have HF2:=Zh (HF1.out.setRowAt 0 rfl #[.slice ao L.length cap,.int .i64 j,.int .i64 en,.int .i64 a1,.int .i64 c1] rfl);have HV2:=Zh (HV.out.keep (T:=fun k=>W0.heap.size<=k) (fun k q hk=>(Keep.of_setRow w1 w.heap.size #[.slice ao L.length cap,.int .i64 j,.int .i64 en,.int .i64 a1,.int .i64 c1]).block k hk (by have q:W0.heap.size<=k:=q; have:=HB0.out; show ¬k=w.heap.size; omega)) (fun k q _=>q));generalize World.setRow w1 w.heap.size #[.slice ao L.length cap,.int .i64 j,.int .i64 en,.int .i64 a1,.int .i64 c1]=w2 at HF2 HV2⊢;obtain⟨y0,y1,y2,y3,y4⟩:=row5 (HF2.out.at 3 e3 rfl);obtain⟨h0,h1,h2,h3,h4⟩:=frz5 (HF2.out.at 3 e3 rfl))
 have HREL:Hid (YoG ao cap L en blocks i0 R w (w2.setCell ⟨b3,0,none⟩ (.slice aov l.len capv))):=Zh (by
  have hK:=Keep.of_setCell w2 ⟨b3,0,none⟩ (.slice aov l.len capv);have hv3:=(HV2.out.keep (T:=fun k=>W0.heap.size<=k) (fun k q hk=>hK.block k hk (by have q:W0.heap.size<=k:=q; have:=HB0.out; show ¬k=b3; omega)) (fun _ q _=>q)).lt;refine⟨(w2.setCell ⟨b3,0,none⟩ (.slice aov l.len capv)).heap.size,_,_,l,[],j,a1,c1,n0,(X.bind fun _ i=>YK L en true i).bind fun _ j=>.ok () j,⟨HF2.out.setCellAt 3 e3 0 _ rfl,?_,Nat.le_refl _,hv3.to (fun k q _=>by have q1:W0.heap.size<=k:=q.1; have:=HB0.out; exact⟨by omega,q.2⟩),OwnR.nil (fun _=>rfl)⟩,?_,?_,?_,by simp,hn00⟩
  ·exact(HF2.out.setCellAt 3 e3 0 (.slice aov l.len capv) rfl).size
  ·exact HST.out.map
  ·rw[<-HR.out];cases hX:X with
   |bad A C=>rfl
   |
    ok x i=>
    have hll:=HLL.out;rw[hX] at hll;show Ynv L en n0 blocks l [] ((YK L en true i).bind _)=(YK L en true i).bind _;cases hE:YK L en true i with
    |bad A C=>rfl
    |ok y k=>rw[hll y k hE]; rfl
  ·intro u k hk;cases hX:X with
   |bad A C=>rw[hX] at hk; cases hk
   |
    ok x i=>
    rw[hX] at hk;obtain⟨y,hy,_⟩:=bind_ok hk;have h5:=HN0.out.1 x i hX;have h6:=HN0.out.2 x i hX;have h7:=JM hy;exact⟨by omega,by omega,by simp⟩)
 clear HF1 HF2 HV HV2 HLL HST HR y0 y1 y2 y3 y4 h0 h1 h2 h3 h4 HB0;go_loopw [] (fun wr=>YoG ao cap L en blocks i0 R w wr) (fun wr=>rtM w.heap.size L.length wr)
 case atStart=>exact HREL.out
 case round=>
  clear HREL;obtain⟨G,v0,v1,left,tests,i,a,c,n,Y,hS,hst,hYR,hYj,htl,hn⟩:=hrel;have hI:=YaL (ao:=ao) (cap:=cap) (en:=en) (w:=wr) HL.out ⟨_,_,_,rfl,hst⟩ (HTK.out.below hS.fr.below) JQ rfl;unfold rV at hI;obtain⟨n,rfl⟩:∃m,n=m+1:=⟨n - 1,by omega⟩;obtain⟨ao0,cap0,rfl⟩:=hS.left.form;obtain⟨ao1,cap1,rfl⟩:=hS.own.form;cases hc:isX L Y 6 JQ with
  |
   false=>
   have HRR:=Zh (hYR.symm.trans (Ymp hc));have HS0:=Zh hS;have HST:=Zh hst;have E1:Ev w [wr] wr #[.slice ao L.length cap,.int .i64 i,.int .i64 en,.int .i64 a,.int .i64 c] #[.slice ao0 left.len cap0,.slice ao1 tests.length cap1,.slice none 0 0,.slice none 0 0,.slice none 0 0]:=⟨hS.fr,fun b hb=>by obtain rfl:=List.mem_singleton.1 hb; exact Keep.refl _ _⟩;obtain⟨r0,r1,r2,r3,r4⟩:=row5 ((Zh hS).out.fr.at 0 (b:=w.heap.size) rfl rfl);rw[hc] at hI;clear hS hc hYR hYj htl;go_wp2_with fail;refine hI.mono ?_;clear hI r0 r1 r2 r3 r4;rintro e w1 ⟨rfl,hb1⟩;have HE1:=Zh (E1.next hb1);clear E1 hb1;obtain⟨r0,r1,r2,r3,r4⟩:=row5 (HE1.out.fr.at 0 (b:=w.heap.size) rfl rfl);have hM:=Yat (ao:=ao) (cap:=cap) (en:=en) HL.out ⟨_,_,_,rfl,HST.out⟩ (HTK.out.below HE1.out.fr.below) sEq rfl;unfold rV at hM;go_wp2_with fail;refine hM.mono ?_;clear hM r0 r1 r2 r3 r4;rintro e w2 ⟨⟨r',rfl,hX6⟩,hb2⟩;obtain⟨j6,a6,c6,rfl,hst6⟩:=hX6;have HE2:=Zh (HE1.out.next hb2);have HX6:Hid (rSt ao cap L en (Y.bind fun _ i=>Yh L en i sEq) (rV ao cap L en j6 a6 c6)):=Zh ⟨_,_,_,rfl,hst6⟩;clear hb2 hst6 HE1;unfold rV;go_wp2_with (
    refine wpList_store_row rfl 85 (.tmp 2) (.tmp 68) rfl w.heap.size #[.slice ao L.length cap,.int .i64 j6,.int .i64 en,.int .i64 a6,.int .i64 c6] rfl rfl 85 _ (HE2.out.fr.at 0 rfl rfl) Yy rfl (YR _ _ _ _ _ _ _ _) ?_;have HE3:=Zh (HE2.out.setR #[.slice ao L.length cap,.int .i64 j6,.int .i64 en,.int .i64 a6,.int .i64 c6]);generalize World.setRow w2 w.heap.size #[.slice ao L.length cap,.int .i64 j6,.int .i64 en,.int .i64 a6,.int .i64 c6]=w3 at HE3⊢;obtain⟨r0,r1,r2,r3,r4⟩:=row5 (HE3.out.fr.at 0 (b:=w.heap.size) rfl rfl);obtain⟨y0,y1,y2,y3,y4⟩:=row5 (HE3.out.fr.at 3 e3 rfl);obtain⟨h0,h1,h2,h3,h4⟩:=frz5 (HE3.out.fr.at 3 e3 rfl))
   have hE:Calls Tryz.prog 104 #[rV ao cap L en j6 a6 c6,.bool true] w3 (Yis ao cap L en false (Y.bind fun _ i=>Yh L en i sEq) w3):=Yd6 ao cap L en false HL.out _ _ w3 HX6.out (HTK.out.below HE3.out.fr.below);unfold rV at hE;refine hE.mono ?_;clear hE r0 r1 r2 r3 r4 y0 y1 y2 y3 y4 h0 h1 h2 h3 h4;rintro e w4 ⟨hb4,r',v,rr,rfl,hX7,hv,hl⟩;obtain⟨j7,a7,c7,rfl,hst7⟩:=hX7;obtain⟨aov,capv,rfl⟩:=hv.form;have HE4:=Zh (HE3.out.next hb4).base;have HL7:=Zh hl;have HV4:=Zh hv;have HST7:=Zh hst7;have HZ3:Hid (w.heap.size+4<=w3.heap.size):=Zh HE3.out.fr.size;clear hb4 hst7 hl hv;unfold rV;go_wp2_with (
    refine wpList_store_row rfl 85 (.tmp 2) (.tmp 72) rfl w.heap.size #[.slice ao L.length cap,.int .i64 j7,.int .i64 en,.int .i64 a7,.int .i64 c7] rfl rfl 85 _ (HE4.out.fr.at 0 rfl rfl) Yy rfl (YR _ _ _ _ _ _ _ _) ?_;have HE5:=Zh (HE4.out.setR #[.slice ao L.length cap,.int .i64 j7,.int .i64 en,.int .i64 a7,.int .i64 c7]);generalize World.setRow w4 w.heap.size #[.slice ao L.length cap,.int .i64 j7,.int .i64 en,.int .i64 a7,.int .i64 c7]=w5 at HE5⊢;obtain⟨r0,r1,r2,r3,r4⟩:=row5 (HE5.out.fr.at 0 (b:=w.heap.size) rfl rfl);obtain⟨y0,y1,y2,y3,y4⟩:=row5 (HE5.out.fr.at 3 e3 rfl);obtain⟨h0,h1,h2,h3,h4⟩:=frz5 (HE5.out.fr.at 3 e3 rfl))
   have E6:=HE5.out.setS e3 2 (.slice aov rr.len capv);generalize w5.setCell ⟨b3,2,none⟩ (.slice aov rr.len capv)=w6 at E6⊢;have HE6:=Zh E6;clear E6 r0 r1 r2 r3 r4 y0 y1 y2 y3 y4 h0 h1 h2 h3 h4;obtain⟨r0,r1,r2,r3,r4⟩:=row5 (HE6.out.fr.at 0 (b:=w.heap.size) rfl rfl);obtain⟨y0,y1,y2,y3,y4⟩:=row5 (HE6.out.fr.at 3 e3 rfl);obtain⟨h0,h1,h2,h3,h4⟩:=frz5 (HE6.out.fr.at 3 e3 rfl);obtain⟨z0,z1,z2,z3,z4⟩:=row5 (HE6.out.fr.at 1 e1 rfl);obtain⟨u0,u1,u2,u3,u4⟩:=row5 (HE6.out.fr.at 2 e2 rfl);obtain⟨x0,x1,x2,x3,x4⟩:=frz5 (HE6.out.fr.at 1 e1 rfl);obtain⟨g0,g1,g2,g3,g4⟩:=frz5 (HE6.out.fr.at 2 e2 rfl);refine Code.wp_mono (Q:=SenQ L b1 b2 ((Y.bind fun _ i=>Yh L en i sEq).bind fun _ i=>YK L en false i) ao cap en #[.slice ao0 left.len cap0,.slice ao1 tests.length cap1,.slice aov rr.len capv,.slice none 0 0,.slice none 0 0] w6) ?m ?r
   case r=>
    go_region
    obtain⟨q1,q2,q3⟩:=Yf5 (by omega:¬b1=b2) (HE6.out.fr.at 1 e1 rfl) (HE6.out.fr.at 2 e2 rfl) (.slice ao L.length cap) (.int .i64 j7) (.int .i64 en) (.int .i64 a7) (.int .i64 c7) (.slice ao0 left.len cap0) (.slice ao1 tests.length cap1) (.slice aov rr.len capv) (.slice none 0 0) (.slice none 0 0);exact⟨rfl,rfl,rfl,j7,a7,c7,HST7.out,Ye2 q1,Ye2 q2,Ycu q3⟩
   case m=>
    intro e a' w' hq;cases e with
    |
     normal=>
     obtain⟨p1,p2,p3,j8,a8,c8,hst8,q1,q2,q3⟩:=hq;clear r0 r1 r2 r3 r4 y0 y1 y2 y3 y4 h0 h1 h2 h3 h4 z0 z1 z2 z3 z4 u0 u1 u2 u3 u4 x0 x1 x2 x3 x4 g0 g1 g2 g3 g4;go_wp2;refine bodyPost_ret (YaT rfl p1 p2 q1 q2 Tryz.underlying85 rfl Yy Tryz.underlying39 rfl JG) p3 ?_;have hrn:=HS0.out.of_ev HE6.out Zs;have hv6:TsV w6 (fun k=>w.heap.size+4<=k) (.slice aov rr.len capv) rr:=HV4.out.keep (fun k q hk=>(HE6.out.keep w4 Zs).block k hk (by have q:w3.heap.size<=k:=q; have:=HZ3.out; omega)) (fun k q _=>by have q:w3.heap.size<=k:=q; have:=HZ3.out; omega);obtain⟨d1,d2⟩:=hrn.done hv6 (TsV.nil _ _) (SsV.nil _ _) e1 e2 q3;refine⟨d1,_,_,_,_,_,_,_,rfl,⟨_,_,_,rfl,?_⟩,d2,rfl,?_⟩
     ·rw[HRR.out]; exact hst8.map
     ·intro x j q;rw[HRR.out] at q;obtain⟨y,hy,rfl⟩:=bind_ok q;rw[HL7.out y j hy]
    |_=>exact hq.elim
  |
   true=>
   obtain⟨u,k0,rfl,hcN⟩:=Yln hc;cases u;obtain⟨rfl,rfl,rfl,hk0⟩:=hst;have hj0:=hYj () k0 rfl;have HRR:Hid (JV L en (n+1) blocks k0 left tests=R):=Zh hYR;have hk0l:=YeS hcN;have HCN:=Zh hcN;have HM:=Zh hS.m;have HS0:=Zh hS;have E1:Ev w [wr] wr #[.slice ao L.length cap,.int .i64 k0,.int .i64 en,.int .i64 0,.int .i64 0] #[.slice ao0 left.len cap0,.slice ao1 tests.length cap1,.slice none 0 0,.slice none 0 0,.slice none 0 0]:=⟨hS.fr,fun b hb=>by obtain rfl:=List.mem_singleton.1 hb; exact Keep.refl _ _⟩;obtain⟨r0,r1,r2,r3,r4⟩:=row5 ((Zh hS).out.fr.at 0 (b:=w.heap.size) rfl rfl);rw[hc] at hI;have wk0:IntKind.i64.wrap ((k0:Int)+1)=k0+1:=IntWalk.i64_in _ (by have:=HL.out.len; omega);clear hS hc hYR hYj hcN;go_wp2_with fail;refine hI.mono ?_;clear hI r0 r1 r2 r3 r4;rintro e w1 ⟨rfl,hb1⟩;have HE1:=Zh (E1.next hb1);clear E1 hb1;obtain⟨r0,r1,r2,r3,r4⟩:=row5 (HE1.out.fr.at 0 (b:=w.heap.size) rfl rfl);obtain⟨f0,f1,f2,f3,f4⟩:=frz5 (HE1.out.fr.at 0 (b:=w.heap.size) rfl rfl);go_wp2_with fail;have E2:=HE1.out.setI (.int .i64 ((k0:Int)+1));generalize w1.setCell ⟨w.heap.size,1,none⟩ (.int .i64 ((k0:Int)+1))=w2 at E2⊢;have HE2:Hid (Ev w [wr] w2 #[.slice ao L.length cap,.int .i64 ((k0:Int)+1),.int .i64 en,.int .i64 0,.int .i64 0] #[.slice ao0 left.len cap0,.slice ao1 tests.length cap1,.slice none 0 0,.slice none 0 0,.slice none 0 0]):=Zh E2;clear E2 r0 r1 r2 r3 r4 f0 f1 f2 f3 f4;have hE:Calls Tryz.prog 104 #[rV ao cap L en ((k0:Int)+1) 0 0,.bool true] w2 (Yis ao cap L en false (.ok () (k0+1):Rd Unit) w2):=Yd6 ao cap L en false HL.out _ _ w2 (YdC () hk0l) (HTK.out.below HE2.out.fr.below);unfold rV at hE;refine hE.mono ?_;clear hE;rintro e w3 ⟨hb3,r',v,l2,rfl,hX2,hv,hl⟩;obtain⟨j2,a2,c2,rfl,hst2⟩:=hX2;obtain⟨aov,capv,rfl⟩:=hv.form;have HE3:=Zh (HE2.out.next hb3).base;have HST2:Hid (rSt ao cap L en (YK L en false (k0+1)) (rV ao cap L en j2 a2 c2)):=Zh ⟨_,_,_,rfl,hst2⟩;have HL2:Hid (∀x k,YK L en false (k0+1)= .ok x k->l2=x):=Zh hl;have HV3:=Zh hv;have HZ2:Hid (w.heap.size+4<=w2.heap.size/\wr.heap.size<=w2.heap.size):=Zh ⟨HE2.out.fr.size,(HE2.out.keep wr Zs).size⟩;clear hb3 hst2 hl hv HE2;unfold rV;go_wp2_with (
    refine wpList_store_row rfl 85 (.tmp 2) (.tmp 25) rfl w.heap.size #[.slice ao L.length cap,.int .i64 j2,.int .i64 en,.int .i64 a2,.int .i64 c2] rfl rfl 85 _ (HE3.out.fr.at 0 rfl rfl) Yy rfl (YR _ _ _ _ _ _ _ _) ?_;have HE4:=Zh (HE3.out.setR #[.slice ao L.length cap,.int .i64 j2,.int .i64 en,.int .i64 a2,.int .i64 c2]);generalize World.setRow w3 w.heap.size #[.slice ao L.length cap,.int .i64 j2,.int .i64 en,.int .i64 a2,.int .i64 c2]=w4 at HE4⊢;obtain⟨r0,r1,r2,r3,r4⟩:=row5 (HE4.out.fr.at 0 (b:=w.heap.size) rfl rfl);obtain⟨y0,y1,y2,y3,y4⟩:=row5 (HE4.out.fr.at 3 e3 rfl);obtain⟨h0,h1,h2,h3,h4⟩:=frz5 (HE4.out.fr.at 3 e3 rfl))
   have hM:=Yat HL.out HST2.out (HTK.out.below HE4.out.fr.below) YaR rfl;unfold rV at hM;refine hM.mono ?_;clear hM r0 r1 r2 r3 r4 y0 y1 y2 y3 y4 h0 h1 h2 h3 h4;rintro e w6 ⟨⟨r',rfl,hX3⟩,hb6⟩;obtain⟨j3,a3,c3,rfl,hst3⟩:=hX3;have HE6:=Zh (HE4.out.next hb6);have HST3:Hid (StOk L ((YK L en false (k0+1)).bind fun _ j=>Yh L en j YaR) j3 a3 c3):=Zh hst3;clear hb6 hst3 HE4 HE3;unfold rV;go_wp2_with (
    refine wpList_store_row rfl 85 (.tmp 2) (.tmp 28) rfl w.heap.size #[.slice ao L.length cap,.int .i64 j3,.int .i64 en,.int .i64 a3,.int .i64 c3] rfl rfl 85 _ (HE6.out.fr.at 0 rfl rfl) Yy rfl (YR _ _ _ _ _ _ _ _) ?_;have HE7a:=Zh (HE6.out.setR #[.slice ao L.length cap,.int .i64 j3,.int .i64 en,.int .i64 a3,.int .i64 c3]);generalize World.setRow w6 w.heap.size #[.slice ao L.length cap,.int .i64 j3,.int .i64 en,.int .i64 a3,.int .i64 c3]=w7a at HE7a⊢;obtain⟨r0,r1,r2,r3,r4⟩:=row5 (HE7a.out.fr.at 0 (b:=w.heap.size) rfl rfl);obtain⟨y0,y1,y2,y3,y4⟩:=row5 (HE7a.out.fr.at 3 e3 rfl);obtain⟨h0,h1,h2,h3,h4⟩:=frz5 (HE7a.out.fr.at 3 e3 rfl))
   have hI:=YaL (ao:=ao) (cap:=cap) (en:=en) HL.out ⟨_,_,_,rfl,HST3.out⟩ (HTK.out.below HE7a.out.fr.below) Y1 rfl;obtain⟨bb,hb⟩:∃bb,isX L ((YK L en false (k0+1)).bind fun _ j=>Yh L en j YaR) 6 Y1=bb:=⟨_,rfl⟩;rw[hb] at hI;have HBB:=Zh hb;clear hb;unfold rV at hI;refine hI.mono ?_;clear hI r0 r1 r2 r3 r4 y0 y1 y2 y3 y4 h0 h1 h2 h3 h4;rintro e w7 ⟨rfl,hb7⟩;have HE7:=Zh (HE7a.out.next hb7).base;clear hb7 HE7a HE6;obtain⟨r0,r1,r2,r3,r4⟩:=row5 (HE7.out.fr.at 0 (b:=w.heap.size) rfl rfl);obtain⟨y0,y1,y2,y3,y4⟩:=row5 (HE7.out.fr.at 3 e3 rfl);obtain⟨h0,h1,h2,h3,h4⟩:=frz5 (HE7.out.fr.at 3 e3 rfl);cases bb with
   |
    true=>
    obtain⟨k,hX3e,hik,hkl,hRk⟩:=Yku (HCN.out) HRR.out HBB.out HL2.out;have HRK:=Zh hRk;obtain⟨rfl,rfl,rfl,hkl2⟩:j3=(k:Int)/\a3=0/\c3=0/\k<=L.length:=by have:=HST3.out; rw[hX3e] at this; exact this
    clear hRk;have wk:IntKind.i64.wrap ((k:Int)+1)=k+1:=IntWalk.i64_in _ (by have:=HL.out.len; omega);by_cases hbl:6<=blocks
    ·have g1:decide ((6:Int)<=(blocks:Int))=true:=Zt;have g2:decide (6<=blocks)=true:=decide_eq_true hbl;have HRF:Hid (R=YeZ L en k 54):=Zh (by rw[HRK.out,if_pos hbl,Yde _ _ _ _ Zd]);go_wp2_with fail;clear r0 r1 r2 r3 r4 y0 y1 y2 y3 y4 h0 h1 h2 h3 h4;obtain⟨r0,r1,r2,r3,r4⟩:=row5 (HE7.out.fr.at 0 (b:=w.heap.size) rfl rfl);obtain⟨y0,y1,y2,y3,y4⟩:=row5 (HE7.out.fr.at 3 e3 rfl);obtain⟨h0,h1,h2,h3,h4⟩:=frz5 (HE7.out.fr.at 3 e3 rfl);obtain⟨z0,z1,z2,z3,z4⟩:=row5 (HE7.out.fr.at 1 e1 rfl);obtain⟨u0,u1,u2,u3,u4⟩:=row5 (HE7.out.fr.at 2 e2 rfl);obtain⟨x0,x1,x2,x3,x4⟩:=frz5 (HE7.out.fr.at 1 e1 rfl);obtain⟨g0,g1,g2,g3,g4⟩:=frz5 (HE7.out.fr.at 2 e2 rfl);have HMs:=Zh (fun W' (hb:Below w7.heap.size w7 W')=>Yc4 (w:=W') (β:=Ss) HL.out (YaZ (ao:=ao) (cap:=cap) (en:=en) (α:=Unit) () hkl2) (HTK.out.below (HE7.out.fr.below.trans (hb.mono HE7.out.fr.below.size))) 54 Zd);unfold rV at HMs;have lb3:b3<w7.heap.size:=(Zg (HE7.out.fr.at 3 e3 rfl)).1;have lb2:b2<w7.heap.size:=(Zg (HE7.out.fr.at 2 e2 rfl)).1;have lb1:b1<w7.heap.size:=(Zg (HE7.out.fr.at 1 e1 rfl)).1;refine Code.wp_mono (Q:=SenQ L b1 b2 (YeZ L en k 54:Rd Ss) ao cap en #[.slice ao0 left.len cap0,.slice ao1 tests.length cap1,.slice none 0 0,.slice none 0 0,.slice none 0 0] w7) ?m ?r
     case r=>
      go_region_with ((go_at_call 57; refine(HMs.out _ (by first | exact Below.refl _ _ | exact below_drewN (Below.refl _ _) _ | exact below_drewN (Below.refl _ _) 1)).mono ?_; rintro e w19 ⟨⟨r3,rfl,⟨j9,a9,c9,rfl,hst9⟩⟩,hb9⟩; unfold rV; dsimp only; obtain⟨y0,y1,y2,y3,y4⟩:=row5 ((hb9.block b3 lb3).trans (HE7.out.fr.at 3 e3 rfl)); obtain⟨z0,z1,z2,z3,z4⟩:=row5 ((hb9.block b1 lb1).trans (HE7.out.fr.at 1 e1 rfl)); obtain⟨u0,u1,u2,u3,u4⟩:=row5 ((hb9.block b2 lb2).trans (HE7.out.fr.at 2 e2 rfl)); obtain⟨x0,x1,x2,x3,x4⟩:=frz5 ((hb9.block b1 lb1).trans (HE7.out.fr.at 1 e1 rfl)); obtain⟨g0,g1,g2,g3,g4⟩:=frz5 ((hb9.block b2 lb2).trans (HE7.out.fr.at 2 e2 rfl))))
      all_goals
       obtain⟨q1,q2,q3⟩:=Yf5 (by omega:¬b1=b2) ((hb9.block b1 lb1).trans (HE7.out.fr.at 1 e1 rfl)) ((hb9.block b2 lb2).trans (HE7.out.fr.at 2 e2 rfl)) (.slice ao L.length cap) (.int .i64 j9) (.int .i64 en) (.int .i64 a9) (.int .i64 c9) (.slice ao0 left.len cap0) (.slice ao1 tests.length cap1) (.slice none 0 0) (.slice none 0 0) (.slice none 0 0);exact⟨rfl,rfl,rfl,j9,a9,c9,hst9,q1,q2,(Yc8 hb9).trans q3 (fun _ _ q=>q)⟩
     case m=>
      intro e a' w' hq;cases e with
      |
       normal=>
       obtain⟨p1,p2,p3,j8,a8,c8,hst8,q1,q2,q3⟩:=hq;clear r0 r1 r2 r3 r4 y0 y1 y2 y3 y4 h0 h1 h2 h3 h4 z0 z1 z2 z3 z4 u0 u1 u2 u3 u4 x0 x1 x2 x3 x4 g0 g1 g2 g3 g4;go_wp2;refine bodyPost_ret (YaT rfl p1 p2 q1 q2 Tryz.underlying85 rfl Yy Tryz.underlying39 rfl JG) p3 ?_;have hrn:=HS0.out.of_ev HE7.out Zs;obtain⟨d1,d2⟩:=hrn.done (TsV.nil _ _) (TsV.nil _ _) (SsV.nil _ _) e1 e2 q3;refine⟨d1,_,_,_,_,_,_,_,rfl,⟨_,_,_,rfl,by rw[HRF.out]; exact hst8⟩,d2,rfl,?_⟩;intro x j q;rw[HRF.out] at q;cases q
      |_=>exact hq.elim
    ·have g1:decide ((6:Int)<=(blocks:Int))=false:=Zf;have g2:decide (6<=blocks)=false:=decide_eq_false hbl;have HRF:Hid (R=((YM L en n (blocks+1) (k+1)).bind fun b q=>(Yh L en q sEnd).bind fun _ m=>.ok b m).bind fun b m=>.ok (.cons left tests .nil l2 b .nil) m):=Zh (by rw[HRK.out,if_neg hbl]);obtain⟨r0,r1,r2,r3,r4⟩:=row5 (HE7.out.fr.at 0 (b:=w.heap.size) rfl rfl);obtain⟨f0,f1,f2,f3,f4⟩:=frz5 (HE7.out.fr.at 0 (b:=w.heap.size) rfl rfl);obtain⟨y0,y1,y2,y3,y4⟩:=row5 (HE7.out.fr.at 3 e3 rfl);obtain⟨h0,h1,h2,h3,h4⟩:=frz5 (HE7.out.fr.at 3 e3 rfl);go_wp2_with fail;have E8:=(HE7.out.setI (.int .i64 ((k:Int)+1))).setS e3 3 (.slice aov l2.len capv);generalize(w7.setCell ⟨w.heap.size,1,none⟩ (.int .i64 ((k:Int)+1))).setCell ⟨b3,3,none⟩ (.slice aov l2.len capv)=w8 at E8⊢;have HE8:Hid (Ev w [w7,w3,wr] w8 #[.slice ao L.length cap,.int .i64 ((k:Int)+1),.int .i64 en,.int .i64 0,.int .i64 0] #[.slice ao0 left.len cap0,.slice ao1 tests.length cap1,.slice none 0 0,.slice aov l2.len capv,.slice none 0 0]):=Zh E8;have hSS:=HI.out Zo n (k+1) w8 Zo Zo Zo (HTK.out.below HE8.out.fr.below);rw[show((k+1:Nat):Int)=(k:Int)+1 by simp] at hSS;unfold rV at hSS;refine hSS.mono ?_;clear hSS E8 r0 r1 r2 r3 r4 f0 f1 f2 f3 f4 y0 y1 y2 y3 y4 h0 h1 h2 h3 h4;rintro e w9 ⟨hb9,r',v,b,rfl,hX4,hv,hl⟩;obtain⟨j4,a4,c4,rfl,hst4⟩:=hX4;obtain⟨aob,capb,rfl⟩:=hv.form;have HE9:=Zh (HE8.out.next hb9).base;have HST4:Hid (rSt ao cap L en (YM L en n (blocks+1) (k+1)) (rV ao cap L en j4 a4 c4)):=Zh ⟨_,_,_,rfl,hst4⟩;have HL4:=Zh hl;have HV9:=Zh hv;have HZ8:Hid (w.heap.size+4<=w8.heap.size):=Zh HE8.out.fr.size;clear hb9 hst4 hl hv;unfold rV;go_wp2_with (
      refine wpList_store_row rfl 85 (.tmp 2) (.tmp 47) rfl w.heap.size #[.slice ao L.length cap,.int .i64 j4,.int .i64 en,.int .i64 a4,.int .i64 c4] rfl rfl 85 _ (HE9.out.fr.at 0 rfl rfl) Yy rfl (YR _ _ _ _ _ _ _ _) ?_;have HE10:=Zh (HE9.out.setR #[.slice ao L.length cap,.int .i64 j4,.int .i64 en,.int .i64 a4,.int .i64 c4]);generalize World.setRow w9 w.heap.size #[.slice ao L.length cap,.int .i64 j4,.int .i64 en,.int .i64 a4,.int .i64 c4]=w10 at HE10⊢;obtain⟨r0,r1,r2,r3,r4⟩:=row5 (HE10.out.fr.at 0 (b:=w.heap.size) rfl rfl);obtain⟨y0,y1,y2,y3,y4⟩:=row5 (HE10.out.fr.at 3 e3 rfl);obtain⟨h0,h1,h2,h3,h4⟩:=frz5 (HE10.out.fr.at 3 e3 rfl))
     have E11:=HE10.out.setS e3 4 (.slice aob b.len capb);generalize w10.setCell ⟨b3,4,none⟩ (.slice aob b.len capb)=w11 at E11⊢;have HE11:=Zh E11;clear E11;clear r0 r1 r2 r3 r4 y0 y1 y2 y3 y4 h0 h1 h2 h3 h4;obtain⟨r0,r1,r2,r3,r4⟩:=row5 (HE11.out.fr.at 0 (b:=w.heap.size) rfl rfl);obtain⟨y0,y1,y2,y3,y4⟩:=row5 (HE11.out.fr.at 3 e3 rfl);obtain⟨h0,h1,h2,h3,h4⟩:=frz5 (HE11.out.fr.at 3 e3 rfl);obtain⟨z0,z1,z2,z3,z4⟩:=row5 (HE11.out.fr.at 1 e1 rfl);obtain⟨u0,u1,u2,u3,u4⟩:=row5 (HE11.out.fr.at 2 e2 rfl);obtain⟨x0,x1,x2,x3,x4⟩:=frz5 (HE11.out.fr.at 1 e1 rfl);obtain⟨g0,g1,g2,g3,g4⟩:=frz5 (HE11.out.fr.at 2 e2 rfl);have HMs:=Zh (fun W' (hb:Below w11.heap.size w11 W')=>Yat (w:=W') HL.out HST4.out (HTK.out.below (HE11.out.fr.below.trans (hb.mono HE11.out.fr.below.size))) sEnd rfl);unfold rV at HMs;have lb3:b3<w11.heap.size:=(Zg (HE11.out.fr.at 3 e3 rfl)).1;have lb2:b2<w11.heap.size:=(Zg (HE11.out.fr.at 2 e2 rfl)).1;have lb1:b1<w11.heap.size:=(Zg (HE11.out.fr.at 1 e1 rfl)).1;refine Code.wp_mono (Q:=SenQ L b1 b2 ((YM L en n (blocks+1) (k+1)).bind fun _ i=>Yh L en i sEnd) ao cap en #[.slice ao0 left.len cap0,.slice ao1 tests.length cap1,.slice none 0 0,.slice aov l2.len capv,.slice aob b.len capb] w11) ?m ?r
     case r=>
      go_region_with ((go_at_call 47; refine(HMs.out _ (by first | exact Below.refl _ _ | exact below_drewN (Below.refl _ _) _ | exact below_drewN (Below.refl _ _) 1)).mono ?_; rintro e w19 ⟨⟨r3,rfl,⟨j9,a9,c9,rfl,hst9⟩⟩,hb9⟩; unfold rV; dsimp only; obtain⟨y0,y1,y2,y3,y4⟩:=row5 ((hb9.block b3 lb3).trans (HE11.out.fr.at 3 e3 rfl)); obtain⟨z0,z1,z2,z3,z4⟩:=row5 ((hb9.block b1 lb1).trans (HE11.out.fr.at 1 e1 rfl)); obtain⟨u0,u1,u2,u3,u4⟩:=row5 ((hb9.block b2 lb2).trans (HE11.out.fr.at 2 e2 rfl)); obtain⟨x0,x1,x2,x3,x4⟩:=frz5 ((hb9.block b1 lb1).trans (HE11.out.fr.at 1 e1 rfl)); obtain⟨g0,g1,g2,g3,g4⟩:=frz5 ((hb9.block b2 lb2).trans (HE11.out.fr.at 2 e2 rfl))))
      all_goals
       obtain⟨q1,q2,q3⟩:=Yf5 (by omega:¬b1=b2) ((hb9.block b1 lb1).trans (HE11.out.fr.at 1 e1 rfl)) ((hb9.block b2 lb2).trans (HE11.out.fr.at 2 e2 rfl)) (.slice ao L.length cap) (.int .i64 j9) (.int .i64 en) (.int .i64 a9) (.int .i64 c9) (.slice ao0 left.len cap0) (.slice ao1 tests.length cap1) (.slice none 0 0) (.slice aov l2.len capv) (.slice aob b.len capb);exact⟨rfl,rfl,rfl,j9,a9,c9,hst9,q1,q2,(Yc8 hb9).trans q3 (fun _ _ q=>q)⟩
     case m=>
      intro e a' w' hq;cases e with
      |
       normal=>
       obtain⟨p1,p2,p3,j8,a8,c8,hst8,q1,q2,q3⟩:=hq;clear r0 r1 r2 r3 r4 y0 y1 y2 y3 y4 h0 h1 h2 h3 h4 z0 z1 z2 z3 z4 u0 u1 u2 u3 u4 x0 x1 x2 x3 x4 g0 g1 g2 g3 g4;go_wp2;refine bodyPost_ret (YaT rfl p1 p2 q1 q2 Tryz.underlying85 rfl Yy Tryz.underlying39 rfl JG) p3 ?_;have hrn:=HS0.out.of_ev HE11.out Zs;have hs11:TsV w11 (fun k=>w.heap.size+4<=k) (.slice aov l2.len capv) l2:=HV3.out.keep (fun k q hk=>(HE11.out.keep w3 Zs).block k hk (by have q:w2.heap.size<=k:=q; have:=HZ2.out; omega)) (fun k q _=>by have q:w2.heap.size<=k:=q; have:=HZ2.out; omega);have hb11:SsV w11 (fun k=>w.heap.size+4<=k) (.slice aob b.len capb) b:=HV9.out.keep (fun k q hk=>(HE11.out.keep w9 Zs).block k hk (by have q:w8.heap.size<=k:=q; have:=HZ8.out; omega)) (fun k q _=>by have q:w8.heap.size<=k:=q; have:=HZ8.out; omega);obtain⟨d1,d2⟩:=hrn.done (TsV.nil _ _) hs11 hb11 e1 e2 q3;refine⟨d1,_,_,_,_,_,_,_,rfl,⟨_,_,_,rfl,by rw[HRF.out]; exact hst8.must⟩,d2,rfl,?_⟩;intro x j q;rw[HRF.out] at q;obtain⟨y,j5,hy,rfl⟩:=YnH q;rw[HL4.out y j5 hy]
      |_=>exact hq.elim
   |
    false=>
    have E8:=HE7.out.next (below_alloc1 w7 (.cells #[.slice aov l2.len capv,.slice none 0 0] 104));have HE8:=Zh E8;have hlt0:w.heap.size<w7.heap.size:=HE7.out.fr.lt (k:=0) Zs;have hlt3:b3<w7.heap.size:=(Zg (HE7.out.fr.at 3 e3 rfl)).1;have hE:Calls Tryz.prog 104 #[rV ao cap L en j3 a3 c3,.bool false] (w7.alloc (.cells #[.slice aov l2.len capv,.slice none 0 0] 104)) (Yis ao cap L en true ((YK L en false (k0+1)).bind fun _ j=>Yh L en j YaR) (w7.alloc (.cells #[.slice aov l2.len capv,.slice none 0 0] 104))):=Yd6 ao cap L en true HL.out _ _ _ ⟨_,_,_,rfl,HST3.out⟩ (HTK.out.below E8.fr.below);unfold rV at hE;clear E8;go_wp2_with fail;refine hE.mono ?_;clear hE r0 r1 r2 r3 r4 y0 y1 y2 y3 y4 h0 h1 h2 h3 h4;rintro e w9 ⟨hb9,r',v,l5,rfl,hX5,hv,hl⟩;obtain⟨j5,a5,c5,rfl,hst5⟩:=hX5;obtain⟨aow,capw,rfl⟩:=hv.form;have HE9:=Zh (HE8.out.next hb9);have HSN:=Zh (Ymo (n:=n) HL.out HCN.out HRR.out HBB.out hst5 HL2.out hl);have HN9:=Zh ((hb9.block w7.heap.size Zs).trans (heap_alloc_new w7 (.cells #[.slice aov l2.len capv,.slice none 0 0] 104)));have HV9:=Zh hv;have hz9:w7.heap.size<w9.heap.size:=(Zg HN9.out).1;have hne1:¬b3=w7.heap.size:=Zo;have hne2:¬w7.heap.size=b3:=Zo;have HZ7:Hid (wr.heap.size<=w7.heap.size/\w.heap.size+4<=w7.heap.size):=Zh ⟨(HE7.out.keep wr Zs).size,HE7.out.fr.size⟩;clear hb9 hst5 hl hv;unfold rV;go_wp2_with (
     first
     |(
       refine wpList_store_row rfl 85 (.tmp 2) (.tmp 58) rfl w.heap.size #[.slice ao L.length cap,.int .i64 j5,.int .i64 en,.int .i64 a5,.int .i64 c5] rfl rfl 85 _ (HE9.out.fr.at 0 rfl rfl) Yy rfl (YR _ _ _ _ _ _ _ _) ?_;have HE10:=Zh (HE9.out.setR #[.slice ao L.length cap,.int .i64 j5,.int .i64 en,.int .i64 a5,.int .i64 c5]);have HN10:=Zh (((Keep.of_setRow w9 w.heap.size #[.slice ao L.length cap,.int .i64 j5,.int .i64 en,.int .i64 a5,.int .i64 c5]).block w7.heap.size hz9 (by show ¬w7.heap.size=w.heap.size; omega)).trans HN9.out);have HV10:=Zh (HV9.out.keep (T:=fun k=>w7.heap.size+1<=k) (fun k q hk=>(Keep.of_setRow w9 w.heap.size #[.slice ao L.length cap,.int .i64 j5,.int .i64 en,.int .i64 a5,.int .i64 c5]).block k hk (by have q2:(w7.alloc (.cells #[.slice aov l2.len capv,.slice none 0 0] 104)).heap.size<=k:=q; simp at q2; show ¬k=w.heap.size; omega)) (fun k q _=>by have q2:(w7.alloc (.cells #[.slice aov l2.len capv,.slice none 0 0] 104)).heap.size<=k:=q; simpa using q2));generalize World.setRow w9 w.heap.size #[.slice ao L.length cap,.int .i64 j5,.int .i64 en,.int .i64 a5,.int .i64 c5]=w10 at HE10 HN10 HV10⊢;obtain⟨y0,y1,y2,y3,y4⟩:=row5 (HE10.out.fr.at 3 e3 rfl);obtain⟨p0,p1⟩:=row2 HN10.out;obtain⟨q0,q1⟩:=frz2 HN10.out;have hz10:w7.heap.size<w10.heap.size:=(Zg HN10.out).1;have KS:=Keep.of_setCell w10 ⟨w7.heap.size,1,none⟩ (.slice aow l5.len capw);have hD:∀b∈[w7,w3,wr],∀k,k=w7.heap.size->k<w.heap.size+4\/b.heap.size<=k:=fun b hb k q=>.inr (by
        subst q;simp only[List.mem_cons,List.not_mem_nil,or_false] at hb;rcases hb with rfl | rfl | rfl
        ·exact Nat.le_refl _
        ·exact(HE7.out.keep b Zs).size
        ·exact(HE7.out.keep b Zs).size)
       have E11:=(HE10.out.turn KS hD (HE10.out.fr.keep KS (fun k q=>by have q:k=w7.heap.size:=q; have:=HZ7.out.2; show w.heap.size+4<=k; omega))).next (below_alloc1 (w10.setCell ⟨w7.heap.size,1,none⟩ (.slice aow l5.len capw)) (.cells #[.slice aov l2.len capv,.slice aow l5.len capw] 104))
       have HE11:=Zh E11;have hv11:TsV ((w10.setCell ⟨w7.heap.size,1,none⟩ (.slice aow l5.len capw)).alloc (.cells #[.slice aov l2.len capv,.slice aow l5.len capw] 104)) (fun k=>w7.heap.size+1<=k) (.slice aow l5.len capw) l5:=(HV10.out.keep (T:=fun k=>w7.heap.size+1<=k) (fun k q hk=>KS.block k hk (by have q:w7.heap.size+1<=k:=q; show ¬k=w7.heap.size; omega)) (fun _ q _=>q)).below (below_alloc1 (w10.setCell ⟨w7.heap.size,1,none⟩ (.slice aow l5.len capw)) (.cells #[.slice aov l2.len capv,.slice aow l5.len capw] 104)) (fun _ q _=>q);have HV11:=Zh hv11;have HNW:=Zh (Yos (w10.setCell ⟨w7.heap.size,1,none⟩ (.slice aow l5.len capw)) (.slice aov l2.len capv) (.slice aow l5.len capw) 104);have HS11:=Zh (HS0.out.of_ev E11 Zs);have hz11:(w10.setCell ⟨w7.heap.size,1,none⟩ (.slice aow l5.len capw)).heap.size=w10.heap.size:=by simp[World.setCell]
       rw[hz11] at HNW;have HVA:Hid (TsV ((w10.setCell ⟨w7.heap.size,1,none⟩ (.slice aow l5.len capw)).alloc (.cells #[.slice aov l2.len capv,.slice aow l5.len capw] 104)) (fun k=>G<=k/\Value.ownBlock (.slice ao1 tests.length cap1)≠some k) (.slice aov l2.len capv) l2):=Zh (HV3.out.keep (fun k q hk=>(E11.keep w3 Zs).block k hk (by have q:w2.heap.size<=k:=q; have:=HZ2.out.1; omega)) (fun k q _=>by
        have q:w2.heap.size<=k:=q;have h1:=HZ2.out.2;have h2:=HS0.out.high;refine⟨by omega,fun e=>?_⟩;have:=(HS0.out.own.own_lt k e).2;omega))
       have HVB:Hid (TsV ((w10.setCell ⟨w7.heap.size,1,none⟩ (.slice aow l5.len capw)).alloc (.cells #[.slice aov l2.len capv,.slice aow l5.len capw] 104)) (fun k=>G<=k/\Value.ownBlock (.slice ao1 tests.length cap1)≠some k) (.slice aow l5.len capw) l5):=Zh (hv11.to (fun k q _=>by
        have q:w7.heap.size+1<=k:=q;have h1:=HZ7.out.1;have h2:=HS0.out.high;refine⟨by omega,fun e=>?_⟩;have:=(HS0.out.own.own_lt k e).2;omega))
       clear E11 hv11 KS hD)
     |(
       at_builtin;refine Yn rfl _ _ 36 rfl G 104 2 48 Ykg _ _ rfl HS11.out.own (Jf _) (Jf [(l2,l5)]) (fun w S xs ys h k=>Yel tests (l2,l5) w S xs ys h k) (some ⟨w10.heap.size,0,none⟩) 1 1 [.slice aov l2.len capv,.slice aow l5.len capw] rfl ⟨_,_,[],rfl,HVA.out,HVB.out,rfl⟩ rfl (fun _=>⟨_,0,rfl,HNW.out⟩) (by simp[Value.oneCell']) Zo Zo HS11.out.high ?_;intro v3 w12 hO3 hK3 hat3;obtain⟨ao13,cap13,rfl⟩:=hO3.form;have hS13:=HS11.out.push hK3 hO3;have hf12:=HS11.out.fr.keep hK3 (fun k q=>Nat.le_trans HS11.out.low (HS11.out.own.own_lt k q).1);obtain⟨y0,y1,y2,y3,y4⟩:=row5 (hf12.at 3 e3 rfl);obtain⟨h0,h1,h2,h3,h4⟩:=frz5 (hf12.at 3 e3 rfl);rw[show w.heap.size+3=b3 from e3] at hS13;have HS13:=Zh hS13;clear hO3 hK3 hat3 hS13 hf12))
    go_roundw
    case rel=>
     have h40:=HL.out.len;rcases HSN.out with⟨m,rfl,rfl,rfl,h4,h5,h6⟩ | ⟨A,C,rfl,rfl,h3,h4⟩
     ·refine⟨G,_,_,left,tests++[(l2,l5)],_,_,_,n,.ok () m,HS13.out,⟨rfl,rfl,rfl,h5⟩,h6.symm,?_,by rw[List.length_append,List.length_singleton]; omega,by omega⟩;intro u j q;cases q;rw[List.length_append,List.length_singleton];exact⟨by omega,by omega,by omega⟩
     ·exact⟨G,_,_,left,tests++[(l2,l5)],_,_,_,n,.bad A _,HS13.out,⟨rfl,rfl,h3⟩,h4.symm,(fun u j q=>by cases q),by rw[List.length_append,List.length_singleton]; omega,by omega⟩
    case measure=>
     have e1:=HS13.out.m;have e2:=HM.out;rw[e1,e2];rcases HSN.out with⟨m,rfl,rfl,rfl,h4,h5,h6⟩ | ⟨A,C,rfl,rfl,h3,h4⟩
     ·rw[if_pos rfl];first | rw[if_pos rfl] | rw[if_pos trivial]
      omega
     ·rw[if_neg h3];first | rw[if_pos rfl] | rw[if_pos trivial]
      omega
structure RqS (ao:Option Addr)(cap:Nat)(L:List Tk)(en:Nat)(w wr:World)(v:Value)(acc:Ss)(i a c:Int):Prop where
 fr:Fr w wr [(#[.slice ao L.length cap,.int .i64 i,.int .i64 en,.int .i64 a,.int .i64 c],85),(#[.slice none 0 0,.int .i64 0,.int .i64 0,.int .i64 0,.int .i64 0],85)]
 own:OwnR wr (w.heap.size+2) 39 5 v acc.len (ssF acc)
section
variable {ao:Option Addr}{cap:Nat}{L:List Tk}{en:Nat}{w wr w1 w3:World}{v v3:Value}{acc l2:Ss}{i a c:Int}
theorem RqS.next (h:RqS ao cap L en w wr v acc i a c)(hb:Below wr.heap.size wr w1):RqS ao cap L en w w1 v acc i a c:=⟨h.fr.next hb,h.own.below (Y9 _) hb⟩
theorem RqS.push (h:RqS ao cap L en w wr v acc i a c)(own3:OwnR w3 (w.heap.size+2) 39 5 v3 (acc.len+l2.len) (ssF (acc.app l2)))(hK:Keep (fun k=>v.ownBlock=some k) wr w3):RqS ao cap L en w w3 v3 (acc.app l2) i a c:=
 ⟨h.fr.keep hK (fun k q=>(h.own.own_lt k q).1),by rw[Ss.len_app]; exact own3⟩
theorem RqS.setI (h:RqS ao cap L en w wr v acc i a c)(i':Int):RqS ao cap L en w (wr.setCell ⟨w.heap.size,1,none⟩ (.int .i64 i')) v acc i' a c:=
 ⟨h.fr.setCellAt 0 rfl 1 (.int .i64 i') rfl,h.own.keep (Y9 _) (Keep.of_setCell wr ⟨w.heap.size,1,none⟩ (.int .i64 i')) (fun k q=>by have:k=w.heap.size:=q; omega)⟩
theorem RqS.setR (h:RqS ao cap L en w wr v acc i a c)(i' a' c':Int):RqS ao cap L en w (wr.setRow w.heap.size #[.slice ao L.length cap,.int .i64 i',.int .i64 en,.int .i64 a',.int .i64 c']) v acc i' a' c':=
 ⟨h.fr.setRowAt 0 rfl _ rfl,h.own.keep (Y9 _) (Keep.of_setRow wr w.heap.size _) (fun k q=>by have:k=w.heap.size:=q; omega)⟩
theorem RqS.ret (h:RqS ao cap L en w wr v acc i a c):
 (((((wr.setCell ⟨w.heap.size+1,0,none⟩ (.slice ao L.length cap)).setCell ⟨w.heap.size+1,1,none⟩ (.int .i64 i)).setCell ⟨w.heap.size+1,2,none⟩ (.int .i64 en)).setCell ⟨w.heap.size+1,3,none⟩ (.int .i64 a)).setCell ⟨w.heap.size+1,4,none⟩ (.int .i64 c)).heap[w.heap.size+1]? =some (.cells #[.slice ao L.length cap,.int .i64 i,.int .i64 en,.int .i64 a,.int .i64 c] 85 (0,0))/\
 Below w.heap.size w (((((wr.setCell ⟨w.heap.size+1,0,none⟩ (.slice ao L.length cap)).setCell ⟨w.heap.size+1,1,none⟩ (.int .i64 i)).setCell ⟨w.heap.size+1,2,none⟩ (.int .i64 en)).setCell ⟨w.heap.size+1,3,none⟩ (.int .i64 a)).setCell ⟨w.heap.size+1,4,none⟩ (.int .i64 c))/\
 SsV (((((wr.setCell ⟨w.heap.size+1,0,none⟩ (.slice ao L.length cap)).setCell ⟨w.heap.size+1,1,none⟩ (.int .i64 i)).setCell ⟨w.heap.size+1,2,none⟩ (.int .i64 en)).setCell ⟨w.heap.size+1,3,none⟩ (.int .i64 a)).setCell ⟨w.heap.size+1,4,none⟩ (.int .i64 c)) (fun k=>w.heap.size<=k) v acc:=by
 obtain⟨n,b,k⟩:=YeX h.fr rfl (.slice ao L.length cap) (.int .i64 i) (.int .i64 en) (.int .i64 a) (.int .i64 c);exact⟨n,b,h.own.ssV.keep (fun x q hk=>k.block x hk Zo) (fun x q _=>by omega)⟩
theorem RqS.m (h:RqS ao cap L en w wr v acc i a c):rtM w.heap.size L.length wr=if c=0 then L.length+1 - i.toNat else 0:=by
 obtain⟨_,r1,_,_,r4⟩:=row5 (h.fr.at 0 (b:=w.heap.size) rfl rfl);unfold rtM;rw[r1,r4]
end
theorem YmK {L:List Tk}{en m blocks j:Nat}{acc s:Ss}{R:Rd Ss}(hR:Yb3 L en (m+1) blocks j acc=R)(hd:isX L (Yg L en m blocks j) 6 JA=false){i a c:Int}(hst:StOk L (Yg L en m blocks j) i a c)(hs:∀x k,Yg L en m blocks j= .ok x k->s=x):
 StOk L R i a c/\∀x k,R= .ok x k->acc.app s=x:=by
 unfold Yb3 at hR;cases hX:Yg L en m blocks j with
 |
  bad A C=>
  rw[hX] at hR hst;subst hR;exact⟨hst,fun x k q=>by cases q⟩
 |
  ok x k=>
  rw[hX] at hR hst hd;dsimp only[Rd.bind] at hR;rw[if_neg (by rw[show isN L k 6 JA=false from hd]; decide)] at hR;subst hR;rw[hs x k hX];exact⟨hst,fun y q e=>by cases e; rfl⟩
theorem Ylb {L:List Tk}{en m blocks j:Nat}{acc s:Ss}{R:Rd Ss}(hR:Yb3 L en (m+1) blocks j acc=R)(hd:isX L (Yg L en m blocks j) 6 JA=true){i a c:Int}(hst:StOk L (Yg L en m blocks j) i a c)(hs:∀x k,Yg L en m blocks j= .ok x k->s=x):
 ∃k:Nat,i=k/\a=0/\c=0/\k<L.length/\j<k/\R=if isN L (k+1) 6 sEnd=true then .ok (acc.app s) (k+1) else Yb3 L en m blocks (k+1) (acc.app s):=by
 unfold Yb3 at hR;obtain⟨x,k,hX,hk⟩:=Yln hd;rw[hX] at hR hst;dsimp only[Rd.bind] at hR;rw[if_pos hk] at hR;obtain⟨rfl,rfl,rfl,h4⟩:=hst;obtain⟨left,j1,h5,h6⟩:=Rd.bind_inv hX;have h7:=JM h5;have h8:=Ydw _ _ _ _ _ _ _ h6;rw[hs x k hX];exact⟨k,rfl,rfl,rfl,YeS hk,by omega,hR.symm⟩
def YoF (ao:Option Addr)(cap:Nat)(L:List Tk)(en blocks:Nat)(R:Rd Ss)(w:World)(v:Value)(wr:World):Prop:=
 ∃(acc:Ss) (i a c:Int) (n:Nat) (Y:Rd Unit),RqS ao cap L en w wr v acc i a c/\StOk L Y i a c/\(∀u j,Y= .ok u j->Yb3 L en n blocks j acc=R/\L.length - j+2<=n/\acc.len<=j)/\(∀A C,Y= .bad A C->acc.len<=50000/\R= .bad A C)
theorem Ydr {w:World}{D:Nat->Prop}{s:Ss}{v0 v1 v2 v3 v4:Value}(hs:s.len=1)(h:Ss.flat w D s [v0,v1,v2,v3,v4]):∃a0 n0 c0 a1 n1 c1 a2 n2 c2 a3 n3 c3 a4 n4 c4,v0= .slice a0 n0 c0/\v1= .slice a1 n1 c1/\v2= .slice a2 n2 c2/\v3= .slice a3 n3 c3/\v4= .slice a4 n4 c4:=by
 cases s with
 |nil=>cases hs
 |
  cons left tests right subject block rest=>
  obtain⟨u0,u1,u2,u3,u4,ys,e,h0,h1,h2,h3,h4,_⟩:=h;cases e;obtain⟨a0,c0,rfl,_⟩:=h0;obtain⟨a1,c1,rfl,_⟩:=h1;obtain⟨a2,c2,rfl,_⟩:=h2;obtain⟨a3,c3,rfl,_⟩:=h3;obtain⟨a4,c4,rfl,_⟩:=h4;exact⟨_,_,_,_,_,_,_,_,_,_,_,_,_,_,_,rfl,rfl,rfl,rfl,rfl⟩
theorem Yha (ao:Option Addr)(cap:Nat)(L:List Tk)(en blocks n0:Nat){α:Type}(X:Rd α)(r:Value)(w:World)(hL:RL L)(hX:rSt ao cap L en X r)(hT:RTok ao L w)(hn0:∀x i,X= .ok x i->L.length - i+3<=n0)
 (IH:∀(n i:Nat) (w':World),i<=L.length->L.length - i+1<=n->RTok ao L w'->Calls Tryz.prog 56 #[rV ao cap L en i 0 0,.int .i64 blocks] w' (Yip ao cap L en (Yg L en n blocks i) w')):
 Calls Tryz.prog 48 #[r,.int .i64 blocks] w (YdO ao cap L en (X.bind fun _ i=>YM L en n0 blocks i) w):=by
 obtain⟨i,a,c,rfl,hst⟩:=hX;have HTK:=Zh hT;have HL:=Zh hL;have HI:Hid _:=IH;clear hT hL IH;have h1:Fr w ((w.alloc (.cells #[.slice ao L.length cap,.int .i64 i,.int .i64 en,.int .i64 a,.int .i64 c] 85)).alloc (.cells #[.slice none 0 0,.int .i64 0,.int .i64 0,.int .i64 0,.int .i64 0] 85)) [(#[.slice ao L.length cap,.int .i64 i,.int .i64 en,.int .i64 a,.int .i64 c],85),(#[.slice none 0 0,.int .i64 0,.int .i64 0,.int .i64 0,.int .i64 0],85)]:=((Fr.start w).alloc Zs _ _).alloc Zs _ _;obtain⟨W0,hW0⟩:∃W0,W0=((w.alloc (.cells #[.slice ao L.length cap,.int .i64 i,.int .i64 en,.int .i64 a,.int .i64 c] 85)).alloc (.cells #[.slice none 0 0,.int .i64 0,.int .i64 0,.int .i64 0,.int .i64 0] 85)).alloc (.cells #[] 39):=⟨_,rfl⟩;have hS0:RqS ao cap L en w W0 (.slice (some ⟨w.heap.size+1+1,0,none⟩) 0 0) .nil i a c:=by
  rw[hW0];refine⟨h1.next (below_alloc1 _ _),OwnR.empty ?_ (Nat.le_refl _) (fun _=>rfl)⟩;have:=heap_alloc_new ((w.alloc (.cells #[.slice ao L.length cap,.int .i64 i,.int .i64 en,.int .i64 a,.int .i64 c] 85)).alloc (.cells #[.slice none 0 0,.int .i64 0,.int .i64 0,.int .i64 0,.int .i64 0] 85)) (.cells #[] 39);simpa using this
 clear h1;obtain⟨Y,hY,hYst⟩:∃Y:Rd Unit,Y=X.bind (fun _ i=>.ok () i)/\StOk L Y i a c:=⟨_,rfl,hst.map⟩;have hR0:(X.bind fun _ i=>YM L en n0 blocks i)=Y.bind fun _ i=>YM L en n0 blocks i:=by rw[hY]; cases X<;>rfl
 have hYn:∀u i,Y= .ok u i->L.length - i+3<=n0:=fun u i q=>by
  rw[hY] at q;obtain⟨x,h2,_⟩:=bind_ok q;exact hn0 x i h2
 rw[hR0];clear hR0 hY hst hn0;generalize hR:(Y.bind fun _ i=>YM L en n0 blocks i)=R;have HR:=Zh hR;have HYN:=Zh hYn;have HYS:=Zh hYst;have HP:Hid (∀r' v b w',Below w.heap.size w w'->rSt ao cap L en R r'->SsV w' (fun k=>w.heap.size<=k) v b->(∀x j,R= .ok x j->b=x)->YdO ao cap L en R w (.returned (.tuple #[r',v])) w'):=Zh (fun r' v b w' h1 h2 h3 h4=>⟨h1,r',v,b,rfl,h2,h3,h4⟩);generalize YdO ao cap L en R w=POST at HP⊢;have hI1:=YaL (ao:=ao) (cap:=cap) (en:=en) (w:=W0) HL.out ⟨_,_,_,rfl,HYS.out⟩ (HTK.out.below hS0.fr.below) sEnd rfl;have hI2:=fun W hb=>YaL (ao:=ao) (cap:=cap) (en:=en) (w:=W) HL.out ⟨_,_,_,rfl,HYS.out⟩ (HTK.out.below hb) JA rfl;have hFl:=fun W hb=>Yc4 (ao:=ao) (cap:=cap) (en:=en) (β:=Ss) (w:=W) HL.out ⟨_,_,_,rfl,HYS.out⟩ (HTK.out.below hb) 53 Zd;obtain⟨c1,hc1⟩:∃b,isX L Y 6 sEnd=b:=⟨_,rfl⟩;obtain⟨c2,hc2⟩:∃b,isX L Y 6 JA=b:=⟨_,rfl⟩;rw[hc1] at hI1;rw[hc2] at hI2;unfold rV at hI1 hI2 hFl;have HI2:=Zh hI2;have HFl:=Zh hFl;have HC:=Zh (And.intro hc1 hc2);clear hR hYn hYst hI2 hFl hc1 hc2;have HS0:=Zh hS0;clear hS0;have hFAIL:Hid (isX L Y 6 sEnd=true\/isX L Y 6 JA=true->R=Y.bind fun _ i=>YeZ L en i 53):=Zh (fun q=>by
  rw[<-HR.out];cases hy:Y with
  |bad=>rfl
  |
   ok u j=>
   rw[hy] at q;have hnn:=HYN.out u j hy;obtain⟨m,rfl⟩:∃m,n0=m+1:=⟨n0 - 1,by omega⟩;show YM L en (m+1) blocks j=_;unfold YM;dsimp only;have q:isN L j 6 sEnd=true\/isN L j 6 JA=true:=q;rw[if_pos q,Yde _ _ _ _ Zd];rfl)
 unfold rV;go_enter Tryz.func48,Tryz.ntmps48;go_wp2_with fail;rw[<-hW0];clear hW0;refine hI1.mono ?_;clear hI1;rintro e w1 ⟨rfl,hb1⟩;have HS1:=Zh (HS0.out.next hb1);clear hb1 HS0;cases c1 with
 |
  true=>
  have HRF:Hid (R=Y.bind fun _ i=>YeZ L en i 53):=Zh (hFAIL.out (.inl HC.out.1));obtain⟨r0,r1,r2,r3,r4⟩:=row5 (HS1.out.fr.at 0 (b:=w.heap.size) rfl rfl);obtain⟨s0,s1,s2,s3,s4⟩:=row5 (HS1.out.fr.at 1 (b:=w.heap.size+1) rfl rfl);obtain⟨g0,g1,g2,g3,g4⟩:=frz5 (HS1.out.fr.at 1 (b:=w.heap.size+1) rfl rfl);go_wp2_with fail;refine(HFl.out w1 HS1.out.fr.below).mono ?_;clear HFl r0 r1 r2 r3 r4 s0 s1 s2 s3 s4 g0 g1 g2 g3 g4;rintro e w19 ⟨⟨r',rfl,hX⟩,hb9⟩;obtain⟨j,a1,c1,rfl,hst⟩:=hX;have HS9:=Zh (HS1.out.next hb9);have HST:=Zh hst;clear hb9 hst;obtain⟨s0,s1,s2,s3,s4⟩:=row5 (HS9.out.fr.at 1 (b:=w.heap.size+1) rfl rfl);obtain⟨g0,g1,g2,g3,g4⟩:=frz5 (HS9.out.fr.at 1 (b:=w.heap.size+1) rfl rfl);unfold rV;go_wp2;obtain⟨q1,q2,q3⟩:=YeX HS9.out.fr rfl (.slice ao L.length cap) (.int .i64 j) (.int .i64 en) (.int .i64 a1) (.int .i64 c1);refine bodyPost_ret (Ya rfl _ _ (w.heap.size+1) 85 _ (0,0) _ (.slice none 0 0) rfl rfl q1 Tryz.underlying85 rfl Yy) rfl (HP.out _ _ .nil _ q2 ⟨_,_,_,rfl,by rw[HRF.out]; exact HST.out⟩ (SsV.nil _ _) ?_);intro x k q;rw[HRF.out] at q;cases hy:Y with
  |bad=>rw[hy] at q; cases q
  |ok=>rw[hy] at q; cases q
 |
  false=>
  obtain⟨r0,r1,r2,r3,r4⟩:=row5 (HS1.out.fr.at 0 (b:=w.heap.size) rfl rfl);go_wp2_with fail;refine(HI2.out w1 HS1.out.fr.below).mono ?_;clear HI2 r0 r1 r2 r3 r4;rintro e w2 ⟨rfl,hb2⟩;have HS2:=Zh (HS1.out.next hb2);clear hb2 HS1;cases c2 with
  |
   true=>
   have HRF:Hid (R=Y.bind fun _ i=>YeZ L en i 53):=Zh (hFAIL.out (.inr HC.out.2));obtain⟨r0,r1,r2,r3,r4⟩:=row5 (HS2.out.fr.at 0 (b:=w.heap.size) rfl rfl);obtain⟨s0,s1,s2,s3,s4⟩:=row5 (HS2.out.fr.at 1 (b:=w.heap.size+1) rfl rfl);obtain⟨g0,g1,g2,g3,g4⟩:=frz5 (HS2.out.fr.at 1 (b:=w.heap.size+1) rfl rfl);go_wp2_with fail;refine(HFl.out w2 HS2.out.fr.below).mono ?_;clear HFl r0 r1 r2 r3 r4 s0 s1 s2 s3 s4 g0 g1 g2 g3 g4;rintro e w19 ⟨⟨r',rfl,hX⟩,hb9⟩;obtain⟨j,a1,c1,rfl,hst⟩:=hX;have HS9:=Zh (HS2.out.next hb9);have HST:=Zh hst;clear hb9 hst;obtain⟨s0,s1,s2,s3,s4⟩:=row5 (HS9.out.fr.at 1 (b:=w.heap.size+1) rfl rfl);obtain⟨g0,g1,g2,g3,g4⟩:=frz5 (HS9.out.fr.at 1 (b:=w.heap.size+1) rfl rfl);unfold rV;go_wp2;obtain⟨q1,q2,q3⟩:=YeX HS9.out.fr rfl (.slice ao L.length cap) (.int .i64 j) (.int .i64 en) (.int .i64 a1) (.int .i64 c1);refine bodyPost_ret (Ya rfl _ _ (w.heap.size+1) 85 _ (0,0) _ (.slice none 0 0) rfl rfl q1 Tryz.underlying85 rfl Yy) rfl (HP.out _ _ .nil _ q2 ⟨_,_,_,rfl,by rw[HRF.out]; exact HST.out⟩ (SsV.nil _ _) ?_);intro x k q;rw[HRF.out] at q;cases hy:Y with
   |bad=>rw[hy] at q; cases q
   |ok=>rw[hy] at q; cases q
  |
   false=>
   have HREL:Hid (YoF ao cap L en blocks R w (.slice (some ⟨w.heap.size+1+1,0,none⟩) 0 0) w2):=Zh ⟨.nil,i,a,c,n0 - 1,Y,HS2.out,HYS.out,fun u j q=>by
    have hnn:=HYN.out u j q;obtain⟨m,rfl⟩:∃m,n0=m+1:=⟨n0 - 1,by omega⟩;refine⟨?_,by omega,Nat.zero_le _⟩;rw[<-HR.out,q];show _=YM L en (m+1) blocks j;unfold YM;dsimp only;have h1:isN L j 6 sEnd=false:=by have:=HC.out.1; rw[q] at this; exact this
    have h2:isN L j 6 JA=false:=by have:=HC.out.2; rw[q] at this; exact this
    rw[if_neg (by rw[h1,h2]; decide)];rfl,fun A C q=>⟨Nat.zero_le _,by rw[<-HR.out,q]; rfl⟩⟩
   clear HFl HS2 hFAIL HC HYS HYN HR;go_wp2;go_loopw [6] (fun v wr=>YoF ao cap L en blocks R w v wr) (fun _ wr=>rtM w.heap.size L.length wr)
   case atStart=>exact HREL.out
   case round=>
    clear HREL;obtain⟨acc,i,a,c,n,Z,hS,hst,hgood,hbad⟩:=hrel;cases Z with
    |
     bad A C=>
     obtain⟨rfl,rfl,hC⟩:=hst;have HRb:=Zh (hbad A _ rfl).2;have HC:=Zh hC;have b0:(c==0)=false:=by simpa using hC
     have HS:=Zh hS;clear hS hbad hgood hC;obtain⟨r0,r1,r2,r3,r4⟩:=row5 (HS.out.fr.at 0 (b:=w.heap.size) rfl rfl);obtain⟨s0,s1,s2,s3,s4⟩:=row5 (HS.out.fr.at 1 (b:=w.heap.size+1) rfl rfl);obtain⟨g0,g1,g2,g3,g4⟩:=frz5 (HS.out.fr.at 1 (b:=w.heap.size+1) rfl rfl);go_wp2;obtain⟨q1,q2,q3⟩:=HS.out.ret;refine bodyPost_ret (Ya rfl _ _ (w.heap.size+1) 85 _ (0,0) _ u6 rfl rfl q1 Tryz.underlying85 rfl Yy) rfl (HP.out _ _ acc _ q2 ?_ q3 ?_)
     ·rw[HRb.out]; exact⟨_,_,_,rfl,rfl,rfl,HC.out⟩
     ·intro x k q; rw[HRb.out] at q; cases q
    |
     ok u j=>
     obtain⟨rfl,rfl,rfl,hj⟩:=hst;obtain⟨hE,hn,hal⟩:=hgood u j rfl;obtain⟨m,rfl⟩:∃m,n=m+1:=⟨n - 1,by omega⟩;have h40:=HL.out.len;have HE:=Zh hE;have HM:=Zh hS.m;have HS:=Zh hS;have hlt0:w.heap.size<wr.heap.size:=hS.fr.lt (k:=0) Zs;have HS2:=Zh (hS.next (below_alloc1 wr (.cells #[.slice none 0 0,.slice none 0 0,.slice none 0 0,.slice none 0 0,.slice none 0 0] 39)));have hSn:=HI.out m j (wr.alloc (.cells #[.slice none 0 0,.slice none 0 0,.slice none 0 0,.slice none 0 0,.slice none 0 0] 39)) hj Zo (HTK.out.below HS2.out.fr.below);unfold rV at hSn;obtain⟨r0,r1,r2,r3,r4⟩:=row5 (HS.out.fr.at 0 (b:=w.heap.size) rfl rfl);clear hS hbad hgood hE;go_wp2_with fail;refine hSn.mono ?_;clear hSn r0 r1 r2 r3 r4;rintro e w3 ⟨hb3,r',v0,v1,v2,v3,v4,s,rfl,hX1,hfl,hsl,hs⟩;obtain⟨j1,a1,c1,rfl,hst1⟩:=hX1;obtain⟨b0,m0,d0,b1,m1,d1,b2,m2,d2,b3,m3,d3,b4,m4,d4,rfl,rfl,rfl,rfl,rfl⟩:=Ydr hsl hfl;have HS3:=Zh (HS2.out.next hb3);have HN3:=Zh ((hb3.block wr.heap.size Zs).trans (heap_alloc_new wr (.cells #[.slice none 0 0,.slice none 0 0,.slice none 0 0,.slice none 0 0,.slice none 0 0] 39)));have HFL3:=Zh hfl;have HK3:=Zh ((Keep.of_alloc (S:=fun k=>k=w.heap.size) wr (.cells #[.slice none 0 0,.slice none 0 0,.slice none 0 0,.slice none 0 0,.slice none 0 0] 39)).trans (Keep.of_below (S:=fun k=>k=w.heap.size) hb3) (fun _ _ q=>q));have HSL:=Zh hsl;have HX1:=Zh (And.intro hst1 hs);have hz3:wr.heap.size<w3.heap.size:=(Zg HN3.out).1;have hwr:Hid (w.heap.size+2<=wr.heap.size):=Zh HS.out.fr.size;clear hb3 hfl hsl hst1 hs;unfold rV;go_wp2_with (
      first
      |(
        refine wpList_store_row rfl 85 (.tmp 2) (.tmp 24) rfl w.heap.size #[.slice ao L.length cap,.int .i64 j1,.int .i64 en,.int .i64 a1,.int .i64 c1] rfl rfl 85 _ (HS3.out.fr.at 0 rfl rfl) Yy rfl (YR _ _ _ _ _ _ _ _) ?_;have HS4:=Zh (HS3.out.setR j1 a1 c1);have HK4:=Zh (HK3.out.trans (Keep.of_setRow w3 w.heap.size #[.slice ao L.length cap,.int .i64 j1,.int .i64 en,.int .i64 a1,.int .i64 c1]) (fun _ _ q=>q));have HN4:=Zh (((Keep.of_setRow w3 w.heap.size #[.slice ao L.length cap,.int .i64 j1,.int .i64 en,.int .i64 a1,.int .i64 c1]).block wr.heap.size hz3 (by show ¬wr.heap.size=w.heap.size; omega)).trans HN3.out);have HFL4:=Zh (Ss.flat_keep (T:=fun k=>wr.heap.size+1<=k) _ _ HFL3.out (fun k q hk=>(Keep.of_setRow w3 w.heap.size #[.slice ao L.length cap,.int .i64 j1,.int .i64 en,.int .i64 a1,.int .i64 c1]).block k hk (by have q2:(wr.alloc (.cells #[.slice none 0 0,.slice none 0 0,.slice none 0 0,.slice none 0 0,.slice none 0 0] 39)).heap.size<=k:=q; simp at q2; show ¬k=w.heap.size; omega)) (fun k q _=>by have q2:(wr.alloc (.cells #[.slice none 0 0,.slice none 0 0,.slice none 0 0,.slice none 0 0,.slice none 0 0] 39)).heap.size<=k:=q; simpa using q2));generalize World.setRow w3 w.heap.size #[.slice ao L.length cap,.int .i64 j1,.int .i64 en,.int .i64 a1,.int .i64 c1]=w4 at HS4 HN4 HFL4 HK4⊢)
      |(
        refine wpList_store_row rfl 39 (.tmp 7) (.tmp 25) rfl wr.heap.size #[.slice b0 m0 d0,.slice b1 m1 d1,.slice b2 m2 d2,.slice b3 m3 d3,.slice b4 m4 d4] rfl rfl 39 _ HN4.out JG rfl (Ygx _ _ _ _ _ _ _ _ _ _ _ _ _ _ _) ?_;have KR:=Keep.of_setRow w4 wr.heap.size #[.slice b0 m0 d0,.slice b1 m1 d1,.slice b2 m2 d2,.slice b3 m3 d3,.slice b4 m4 d4];have HN5:=Zh (setRow_heap w4 wr.heap.size _ #[.slice b0 m0 d0,.slice b1 m1 d1,.slice b2 m2 d2,.slice b3 m3 d3,.slice b4 m4 d4] _ _ HN4.out);have hS5:RqS ao cap L en w (World.setRow w4 wr.heap.size #[.slice b0 m0 d0,.slice b1 m1 d1,.slice b2 m2 d2,.slice b3 m3 d3,.slice b4 m4 d4]) u6 acc j1 a1 c1:=⟨HS4.out.fr.keep KR (fun k q=>by have q:k=wr.heap.size:=q; have:=hwr.out; show w.heap.size+2<=k; omega),HS.out.own.keep (S:=fun k=>k=w.heap.size) (Y9 _) (HK4.out.trans KR (fun k hk q=>by have q:k=wr.heap.size:=q; omega)) (fun k q=>by have q:k=w.heap.size:=q; omega)⟩;have HFL5:=Zh (Ss.flat_keep (T:=fun k=>w.heap.size+2<=k/\u6.ownBlock≠some k) _ _ HFL4.out (fun k q hk=>KR.block k hk (by have q:wr.heap.size+1<=k:=q; show ¬k=wr.heap.size; omega)) (fun k q _=>by
         have q:wr.heap.size+1<=k:=q;have h2:=hwr.out;refine⟨by omega,fun e1=>?_⟩;have:=(HS.out.own.own_lt k e1).2;omega))
        clear KR;generalize World.setRow w4 wr.heap.size #[.slice b0 m0 d0,.slice b1 m1 d1,.slice b2 m2 d2,.slice b3 m3 d3,.slice b4 m4 d4]=w5 at HN5 hS5 HFL5⊢;have HS7:=Zh (hS5.next (below_alloc1 w5 (.cells #[.slice b0 m0 d0,.slice b1 m1 d1,.slice b2 m2 d2,.slice b3 m3 d3,.slice b4 m4 d4] 39)));have HFL7:=Zh (Ss.flat_keep (T:=fun k=>w.heap.size+2<=k/\u6.ownBlock≠some k) _ _ HFL5.out (fun k q hk=>(below_alloc1 w5 (.cells #[.slice b0 m0 d0,.slice b1 m1 d1,.slice b2 m2 d2,.slice b3 m3 d3,.slice b4 m4 d4] 39)).block k hk) (fun _ q _=>q));have HNW:=Zh (YnC w5 (.slice b0 m0 d0) (.slice b1 m1 d1) (.slice b2 m2 d2) (.slice b3 m3 d3) (.slice b4 m4 d4) 39);obtain⟨t0,t1,t2,t3,t4⟩:=row5 HN5.out;clear hS5)
      |(
        at_builtin;refine Yn rfl _ _ 37 rfl (w.heap.size+2) 39 5 120 Ykt _ _ rfl HS7.out.own (Y9 _) (Y9 s) (Ykp _ _) (some ⟨w5.heap.size,0,none⟩) 1 1 [.slice b0 m0 d0,.slice b1 m1 d1,.slice b2 m2 d2,.slice b3 m3 d3,.slice b4 m4 d4] rfl HFL7.out rfl (fun _=>⟨_,0,rfl,HNW.out⟩) (by simp[Value.oneCell']) Zo Zo (by have:=HS7.out.fr.size; simpa using this) ?_;intro v7 w7 hO3 hK3 hat3;have hS8:=HS7.out.push (l2:=s) (by rw[HSL.out]; exact hO3) hK3;obtain⟨r0,r1,r2,r3,r4⟩:=row5 (hS8.fr.at 0 (b:=w.heap.size) rfl rfl);have HS8:=Zh hS8;clear hO3 hK3 hat3 hS8))
     obtain⟨d1,hd1⟩:∃b,isX L (Yg L en m blocks j) 6 JA=b:=⟨_,rfl⟩;have hI:=YaL (ao:=ao) (cap:=cap) (en:=en) HL.out ⟨_,_,_,rfl,HX1.out.1⟩ (HTK.out.below HS8.out.fr.below) JA rfl;rw[hd1] at hI;have HD1:=Zh hd1;clear hd1;unfold rV at hI;refine hI.mono ?_;clear hI r0 r1 r2 r3 r4;rintro e w8 ⟨rfl,hb8⟩;have HS9:=Zh (HS8.out.next hb8);clear hb8;cases d1 with
     |
      false=>
      have HR2:=Zh (YmK HE.out HD1.out HX1.out.1 HX1.out.2);obtain⟨r0,r1,r2,r3,r4⟩:=row5 (HS9.out.fr.at 0 (b:=w.heap.size) rfl rfl);obtain⟨s0,s1,s2,s3,s4⟩:=row5 (HS9.out.fr.at 1 (b:=w.heap.size+1) rfl rfl);obtain⟨g0,g1,g2,g3,g4⟩:=frz5 (HS9.out.fr.at 1 (b:=w.heap.size+1) rfl rfl);go_wp2;obtain⟨q1,q2,q3⟩:=HS9.out.ret;refine bodyPost_ret (Ya rfl _ _ (w.heap.size+1) 85 _ (0,0) _ v7 rfl rfl q1 Tryz.underlying85 rfl Yy) rfl (HP.out _ _ (acc.app s) _ q2 ?_ q3 ?_)
      ·exact⟨_,_,_,rfl,HR2.out.1⟩
      ·intro x k q; exact HR2.out.2 x k q
     |
      true=>
      obtain⟨k,rfl,rfl,rfl,hkl,hjk,hRk⟩:=Ylb HE.out HD1.out HX1.out.1 HX1.out.2;have HRK:=Zh hRk;have wk:IntKind.i64.wrap ((k:Int)+1)=k+1:=IntWalk.i64_in _ Zo;clear hRk;obtain⟨r0,r1,r2,r3,r4⟩:=row5 (HS9.out.fr.at 0 (b:=w.heap.size) rfl rfl);obtain⟨f0,f1,f2,f3,f4⟩:=frz5 (HS9.out.fr.at 0 (b:=w.heap.size) rfl rfl);go_wp2_with fail;have hS10:=HS9.out.setI ((k:Int)+1);generalize w8.setCell ⟨w.heap.size,1,none⟩ (.int .i64 ((k:Int)+1))=w10 at hS10⊢;have HS10:=Zh hS10;obtain⟨d2,hd2⟩:∃b,isN L (k+1) 6 sEnd=b:=⟨_,rfl⟩;have hI:Calls Tryz.prog 45 #[rV ao cap L en ((k:Int)+1) 0 0,.string sEnd] w10 fun e w'=>e= .returned (.bool (isN L (k+1) 6 sEnd))/\Below w10.heap.size w10 w':=YaL (ao:=ao) (cap:=cap) (en:=en) HL.out (YdC (α:=Unit) () hkl) (HTK.out.below HS10.out.fr.below) sEnd rfl;rw[hd2] at hI;have HD2:=Zh hd2;clear hd2 hS10;unfold rV at hI;refine hI.mono ?_;clear hI r0 r1 r2 r3 r4 f0 f1 f2 f3 f4;rintro e w11 ⟨rfl,hb11⟩;have HS11:=Zh (HS10.out.next hb11);clear hb11;cases d2 with
      |
       true=>
       have HR3:Hid (R= .ok (acc.app s) (k+1)):=Zh (by rw[HRK.out,if_pos HD2.out]);obtain⟨r0,r1,r2,r3,r4⟩:=row5 (HS11.out.fr.at 0 (b:=w.heap.size) rfl rfl);obtain⟨s0,s1,s2,s3,s4⟩:=row5 (HS11.out.fr.at 1 (b:=w.heap.size+1) rfl rfl);obtain⟨g0,g1,g2,g3,g4⟩:=frz5 (HS11.out.fr.at 1 (b:=w.heap.size+1) rfl rfl);go_wp2;obtain⟨q1,q2,q3⟩:=HS11.out.ret;refine bodyPost_ret (Ya rfl _ _ (w.heap.size+1) 85 _ (0,0) _ v7 rfl rfl q1 Tryz.underlying85 rfl Yy) rfl (HP.out _ _ (acc.app s) _ q2 ?_ q3 ?_)
       ·rw[HR3.out]; exact⟨_,_,_,rfl,by simp,rfl,rfl,hkl⟩
       ·intro x k q; rw[HR3.out] at q; cases q; rfl
      |
       false=>
       go_wp2;go_roundw
       case rel=>
        refine⟨acc.app s,_,_,_,m,.ok () (k+1),HS11.out,⟨by simp,rfl,rfl,hkl⟩,?_,fun A C q=>by cases q⟩;intro u q h;cases h;refine⟨by rw[HRK.out,HD2.out,if_neg Zd],by omega,?_⟩;rw[Ss.len_app,HSL.out];omega
       case measure=>
        have e1:=HS11.out.m;have e2:=HM.out;rw[e1,e2,if_pos rfl];first | rw[if_pos rfl] | rw[if_pos trivial]
        omega
theorem YfC (ao:Option Addr)(cap:Nat)(L:List Tk)(en:Nat)(hL:RL L):∀(m blocks:Nat),6 - blocks<=m->blocks<=6->∀{α:Type} (X:Rd α) (n:Nat) (r:Value) (w:World),rSt ao cap L en X r->RTok ao L w->(∀x i,X= .ok x i->L.length - i+3<=n)->
 Calls Tryz.prog 48 #[r,.int .i64 blocks] w (YdO ao cap L en (X.bind fun _ i=>YM L en n blocks i) w):=by
 intro m;induction m with
 |
  zero=>
  intro blocks hm hb α X n r w hX hT hn;refine Yha ao cap L en blocks n X r w hL hX hT hn (fun n' i w' hi hn' hT'=>?_);exact Yb2 ao cap L en blocks i n' (.ok () i:Rd Unit) _ w' hL (YaZ () hi) hT' hb (fun x j q=>by cases q; rfl) (fun x j q=>by cases q; exact hn') Zo (fun h=>by omega)
 |
  succ m ih=>
  intro blocks hm hb α X n r w hX hT hn;refine Yha ao cap L en blocks n X r w hL hX hT hn (fun n' i w' hi hn' hT'=>?_);refine Yb2 ao cap L en blocks i n' (.ok () i:Rd Unit) _ w' hL (YaZ () hi) hT' hb (fun x j q=>by cases q; rfl) (fun x j q=>by cases q; exact hn') Zo (fun h n2 j w2 _ hj hn2 hT2=>?_);have:=ih (blocks+1) Zo Zo (.ok () j:Rd Unit) n2 _ w2 (YaZ () hj) hT2 (fun x k q=>by cases q; exact hn2);rw[show((blocks+1:Nat):Int)=(blocks:Int)+1 by simp] at this;exact this
theorem Yg9 (ao:Option Addr)(cap:Nat)(L:List Tk)(en:Nat)(hL:RL L){α:Type}(X:Rd α)(r:Value)(w:World)(hX:rSt ao cap L en X r)(hT:RTok ao L w):
 Calls Tryz.prog 48 #[r,.int .i64 0] w (YdO ao cap L en (X.bind fun _ i=>YM L en (L.length+4) 0 i) w):=
 YfC ao cap L en hL 6 0 Zo Zo X (L.length+4) r w hX hT (fun x i _=>by omega)
theorem Yhb (ao:Option Addr)(cap:Nat)(L:List Tk)(en:Nat)(hL:RL L)(X:Rd Unit)(hX0:∀x i,X= .ok x i->i=0)(r:Value)(w:World)(hX:rSt ao cap L en X r)(hT:RTok ao L w):
 Calls Tryz.prog 56 #[r,.int .i64 0] w (Yip ao cap L en (X.bind fun _ i=>Yg L en (L.length+4) 0 i) w):=by
 refine Yb2 ao cap L en 0 0 (L.length+4) X r w hL hX hT Zo hX0 (fun x i _=>by omega) Zo (fun h n2 j w2 _ hj hn2 hT2=>?_);have:=YfC ao cap L en hL 6 1 Zo Zo (.ok () j:Rd Unit) n2 _ w2 (YaZ () hj) hT2 (fun x k q=>by cases q; exact hn2);exact this
end Go.Proofs.YteamjdmhdfjopaaGreatDoor
