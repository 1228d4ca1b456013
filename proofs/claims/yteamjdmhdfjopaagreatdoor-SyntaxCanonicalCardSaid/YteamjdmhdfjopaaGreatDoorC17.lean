/- A part of the proof; it holds the texts Sen Ses Mod Itm (names and blanks shortened). -/
import Derived.Test.YteamjdmhdfjopaaGreatDoorC16
import Derived.Test.YteamjdmhdfjopaaGreatDoorC1
import Derived.Deep.RegionLaw
import Derived.RegionDies
namespace Go.Proofs.YteamjdmhdfjopaaGreatDoor
open Go.RowKit
set_option maxRecDepth 100000
set_option maxHeartbeats 8000000
set_option linter.unusedVariables false
set_option linter.unusedSimpArgs false
def Ydq (B rb:Nat)(ao:Option Addr)(cap:Nat)(L:List Tk)(en:Nat)(w:World)(R:Rd Ss)(e:Ending)(w':World):Prop:=
 Keep (fun k=>k=rb) w w'/\match R with
 |.ok s j=>∃v0 v1 v2 v3 v4,e= .returned (.agg #[v0,v1,v2,v3,v4])/\s.flat w' (fun k=>w.heap.size<=k) [v0,v1,v2,v3,v4]/\Yp B w' rb ao cap L en j
 |.bad a c=>e=misR a c
def Ydp (B rb:Nat)(ao:Option Addr)(cap:Nat)(L:List Tk)(en:Nat)(w:World)(R:Rd Ss)(e:Ending)(w':World):Prop:=
 Keep (fun k=>k=rb) w w'/\match R with
 |.ok s j=>∃v,e= .returned v/\SsV w' (fun k=>w.heap.size<=k) v s/\Yp B w' rb ao cap L en j
 |.bad a c=>e=misR a c
theorem YpZ:SlTy Tryz.prog 36 104 2 48:=YdA (z:=.agg #[.slice none 0 0,.slice none 0 0]) Tryz.underlying36 (by kernel_rfl) rfl Zd
theorem Yp4:SlTy Tryz.prog 37 39 5 120:=YdA (z:=.agg #[.slice none 0 0,.slice none 0 0,.slice none 0 0,.slice none 0 0,.slice none 0 0]) Tryz.underlying37 (by kernel_rfl) rfl Zd
theorem YhW {a b c d e:Value}:(Tryz.prog.info? 39).map (·.size)=some (#[a,b,c,d,e]:Array Value).size:=by
 show _=some 5;kernel_rfl
def Yht:Array Value:=#[.slice none 0 0,.slice none 0 0,.slice none 0 0,.slice none 0 0,.slice none 0 0]
theorem YhT {t:TypeId}(w:World)(g:Nat)(a b c d e a' b' c' d' e':Value)(h:w.heap[g]? =some (.cells #[a,b,c,d,e] t (0,0))):
 (((((w.setCell ⟨g,0,none⟩ a').setCell ⟨g,1,none⟩ b').setCell ⟨g,2,none⟩ c').setCell ⟨g,3,none⟩ d').setCell ⟨g,4,none⟩ e').heap[g]? =some (.cells #[a',b',c',d',e'] t (0,0)):=by
 have h1:=heap_setCell_same w g 0 _ _ a' h;have h2:=heap_setCell_same _ g 1 _ _ b' h1;have h3:=heap_setCell_same _ g 2 _ _ c' h2;have h4:=heap_setCell_same _ g 3 _ _ d' h3;have h5:=heap_setCell_same _ g 4 _ _ e' h4;rw[h5]; simp
theorem YeN (w:World)(g:Nat)(a b c d e:Value):
 Keep (fun k=>k=g) w (((((w.setCell ⟨g,0,none⟩ a).setCell ⟨g,1,none⟩ b).setCell ⟨g,2,none⟩ c).setCell ⟨g,3,none⟩ d).setCell ⟨g,4,none⟩ e):=
 ((((Keep.of_setCell w ⟨g,0,none⟩ a).trans (Keep.of_setCell _ ⟨g,1,none⟩ b) (fun _ _ e=>e)).trans (Keep.of_setCell _ ⟨g,2,none⟩ c) (fun _ _ e=>e)).trans (Keep.of_setCell _ ⟨g,3,none⟩ d) (fun _ _ e=>e)).trans (Keep.of_setCell _ ⟨g,4,none⟩ e) (fun _ _ e=>e)
structure SeW (B rb:Nat)(w wr:World)(g:Nat)(vl vt vr vs vb:Value)(left:Ts)(tests:List (Ts×Ts)):Prop where
 keep:Keep (fun k=>k=rb) w wr
 r0:wr.heap[w.heap.size]? =some (.cells Yht 39 (0,0))
 r1:wr.heap[g]? =some (.cells #[vl,vt,vr,vs,vb] 39 (0,0))
 gt:w.heap.size<g
 left:TsV wr (fun k=>w.heap.size<k/\k<g) vl left
 own:OwnR wr (g+1) 104 2 vt tests.length (Yd3 tests)
section
variable {B rb:Nat}{ao:Option Addr}{cap:Nat}{L:List Tk}{en i:Nat}{w wr W':World}{g:Nat}{vl vt vr vs vb:Value}{left:Ts}{tests:List (Ts×Ts)}
theorem SeW.size (h:SeW B rb w wr g vl vt vr vs vb left tests):g<wr.heap.size:=(Zg h.r1).1
theorem SeW.call (h:SeW B rb w wr g vl vt vr vs vb left tests)(hrb:rb<w.heap.size)(hK:Keep (fun k=>k=rb) wr W'):SeW B rb w W' g vl vt vr vs vb left tests:=by
 have hs:=h.size;have hg:=h.gt;exact⟨h.keep.trans hK (fun _ _ q=>q),(hK.block _ Zo Zo).trans h.r0,(hK.block _ hs Zo).trans h.r1,hg,h.left.keep (fun k q hk=>hK.block k hk Zo) (fun k q _=>q),h.own.keep (Yag _) hK (fun k q=>by omega)⟩
theorem SeW.cell (h:SeW B rb w wr g vl vt vr vs vb left tests):wr.cell? ⟨g,0,none⟩=some vl/\wr.cell? ⟨g,1,none⟩=some vt/\wr.cell? ⟨g,2,none⟩=some vr/\wr.cell? ⟨g,3,none⟩=some vs/\wr.cell? ⟨g,4,none⟩=some vb:=by
 refine⟨?_,?_,?_,?_,?_⟩<;>simp[World.cell?,h.r1]
theorem SeW.zero (h:SeW B rb w wr g vl vt vr vs vb left tests)(o:Nat)(ho:o<5):wr.cell? ⟨w.heap.size,o,none⟩=some (.slice none 0 0):=by
 rw[cell_of_row wr w.heap.size o Yht _ (0,0) h.r0];unfold Yht;match o,ho with
 |0,_=>rfl
 |1,_=>rfl
 |2,_=>rfl
 |3,_=>rfl
 |4,_=>rfl
theorem SeW.f0 (h:SeW B rb w wr g vl vt vr vs vb left tests)(o:Nat):wr.frozen? ⟨w.heap.size,o,none⟩=false:=by simp[World.frozen?,h.r0]
theorem SeW.f1 (h:SeW B rb w wr g vl vt vr vs vb left tests)(o:Nat):wr.frozen? ⟨g,o,none⟩=false:=by simp[World.frozen?,h.r1]
theorem SeW.store (h:SeW B rb w wr g vl vt vr vs vb left tests)(hrb:rb<w.heap.size)(o:Nat)(u:Value){vr' vs' vb':Value}(hc:(#[vl,vt,vr,vs,vb]:Array Value).setIfInBounds o u=#[vl,vt,vr',vs',vb']):
 SeW B rb w (wr.setCell ⟨g,o,none⟩ u) g vl vt vr' vs' vb' left tests:=by
 have hs:=h.size;have hg:=h.gt;have hK:=Keep.of_setCell wr ⟨g,o,none⟩ u;refine⟨h.keep.new hK (fun k q=>by have:k=g:=q; omega),(hK.block _ Zo (by show ¬w.heap.size=g; omega)).trans h.r0,?_,hg,h.left.keep (fun k q hk=>hK.block k hk (by show ¬k=g; omega)) (fun k q _=>q),h.own.keep (Yag _) hK (fun k q=>by have:k=g:=q; omega)⟩;have:=heap_setCell_same wr g o _ _ u h.r1;rw[hc] at this;exact this
theorem SeW.done (h:SeW B rb w wr g vl vt vr vs vb left tests)(_hrb:rb<w.heap.size)(a b c d e:Value){right subject:Ts}{block:Ss}(hr:TsV wr (fun k=>w.heap.size<k) vr right)(hs:TsV wr (fun k=>w.heap.size<k) vs subject)(hb:SsV wr (fun k=>w.heap.size<k) vb block):
 (Ss.cons left tests right subject block .nil).flat (((((wr.setCell ⟨w.heap.size,0,none⟩ a).setCell ⟨w.heap.size,1,none⟩ b).setCell ⟨w.heap.size,2,none⟩ c).setCell ⟨w.heap.size,3,none⟩ d).setCell ⟨w.heap.size,4,none⟩ e) (fun k=>w.heap.size<=k) [vl,vt,vr,vs,vb]/\
 Keep (fun k=>k=rb) w (((((wr.setCell ⟨w.heap.size,0,none⟩ a).setCell ⟨w.heap.size,1,none⟩ b).setCell ⟨w.heap.size,2,none⟩ c).setCell ⟨w.heap.size,3,none⟩ d).setCell ⟨w.heap.size,4,none⟩ e):=by
 have hK:=YeN wr w.heap.size a b c d e;have hg:=h.gt;exact⟨⟨vl,vt,vr,vs,vb,[],rfl,h.left.keep (fun k q hk=>hK.block k hk Zo) (fun k q _=>by omega),h.own.testsV.keep (fun k q hk=>hK.block k hk Zo) (fun k q _=>by omega),hr.keep (fun k q hk=>hK.block k hk Zo) (fun k q _=>by omega),
  hs.keep (fun k q hk=>hK.block k hk Zo) (fun k q _=>by omega),hb.keep (fun k q hk=>hK.block k hk Zo) (fun k q _=>by omega),rfl⟩,h.keep.new hK (fun k q=>by omega)⟩
theorem SeW.push {w7:World}{vt':Value}{y:Ts×Ts}(h:SeW B rb w wr g vl vt vr vs vb left tests)(hrb:rb<w.heap.size)(hK:Keep (fun k=>vt.ownBlock=some k) wr w7)(hO:OwnR w7 (g+1) 104 2 vt' (tests.length+1) (Yd3 (tests++[y]))):
 SeW B rb w (w7.setCell ⟨g,1,none⟩ vt') g vl vt' vr vs vb left (tests++[y]):=by
 have hs:=h.size;have hg:=h.gt;have hb:∀k,vt.ownBlock=some k->g+1<=k:=fun k q=>(h.own.own_lt k q).1;have hK2:=Keep.of_setCell w7 ⟨g,1,none⟩ vt';have r1:=(hK.block g hs (fun q=>by have:=hb g q; omega)).trans h.r1;have hs7:g<w7.heap.size:=(Zg r1).1;refine⟨(h.keep.new hK (fun k q=>by have:=hb k q; omega)).new hK2 (fun k q=>by have:k=g:=q; omega),(hK2.block _ Zo (by show ¬w.heap.size=g; omega)).trans ((hK.block _ Zo (fun q=>by have:=hb _ q; omega)).trans h.r0),?_,hg,?_,?_⟩
 ·have:=heap_setCell_same w7 g 1 _ _ vt' r1;simpa using this
 ·exact(h.left.keep (fun k q hk=>hK.block k hk (fun e=>by have:=hb k e; omega)) (fun k q _=>q)).keep (fun k q hk=>hK2.block k hk (by show ¬k=g; omega)) (fun k q _=>q)
 ·rw[List.length_append,List.length_singleton];exact hO.keep (Yag _) hK2 (fun k q=>by have:k=g:=q; omega)
theorem SsV.form {w:World}{S:Nat->Prop}{v:Value}{l:Ss}(h:SsV w S v l):∃ao cap,v= .slice ao l.len cap:=by obtain⟨a,c,e,_⟩:=h; exact⟨a,c,e⟩
theorem OwnR.form {w:World}{B:Nat}{e:TypeId}{size:Nat}{v:Value}{n:Nat}{F:World->(Nat->Prop)->List Value->Prop}(h:OwnR w B e size v n F):∃ao cap,v= .slice ao n cap:=by obtain⟨xs,ho,_⟩:=h; obtain⟨a,c,e,_⟩:=YZ ho; exact⟨a,c,e⟩
end
theorem news2 (w:World)(a b:Value)(t:TypeId):∀j u,[a,b][j]? =some u->(w.alloc (.cells #[a,b] t)).cell? ⟨w.heap.size,0+j,none⟩=some u:=by
 intro j u h;rw[cell_of_row _ w.heap.size (0+j) #[a,b] t (0,0) (heap_alloc_new w _),Nat.zero_add];simpa using h
structure SeS (B rb:Nat)(ao:Option Addr)(cap:Nat)(L:List Tk)(en blocks:Nat)(R:Rd Ss)(w wr:World)(g:Nat)(vl vt:Value)(left:Ts)(tests:List (Ts×Ts))(i n:Nat):Prop where
 fuel:L.length - i+1<=n
 eq:Y9 L en n blocks i left tests=R
 rdr:Yp B wr rb ao cap L en i
 sw:SeW B rb w wr g vl vt (.slice none 0 0) (.slice none 0 0) (.slice none 0 0) left tests
 cnt:tests.length<=i
theorem YeP (hV:J3)(B rb:Nat)(ao:Option Addr)(cap:Nat)(L:List Tk)(en blocks i0 n0:Nat)(w:World)(h0:Yp B w rb ao cap L en i0)(hblocks:blocks<=6)(hn0:L.length - i0+1<=n0)
 (IH:blocks<6->∀(n i:Nat) (w':World),i0<i->L.length - i+3<=n->Yp B w' rb ao cap L en i->Calls Tryz.prog 97 #[.pointer (some ⟨rb,0,none⟩),.int .i64 ((blocks:Int)+1)] w' (Ydp B rb ao cap L en w' (YA L en n (blocks+1) i))):
 Calls Tryz.prog 54 #[.pointer (some ⟨rb,0,none⟩),.int .i64 blocks] w (Ydq B rb ao cap L en w (Jl L en n0 blocks i0)):=by
 have hw:=h0.size;have hrb:rb<w.heap.size:=h0.lt;have hfew:=h0.few;have hlow:=h0.low;have HV:Hid J3:=hV;have HI:Hid _:=IH;clear hV IH;have HR:Hid (Jl L en n0 blocks i0=(Jo L en true i0).bind fun left j=>Y9 L en n0 blocks j left []):=rfl;generalize Jl L en n0 blocks i0=R at HR⊢;have h1:=h0.below (below_alloc1 w (.cells Yht 39));have hE:=Yeu HV.out B rb ao cap L en true i0 _ h1;have hge:∀l j,Jo L en true i0= .ok l j->i0<=j:=fun l j q=>J0 q;have HGE:=Zh hge;clear hge;generalize Jo L en true i0=X at hE HR HGE;have hn:=heap_alloc_new w (.cells Yht 39);have hz:(w.alloc (.cells Yht 39)).heap.size=w.heap.size+1:=Zs;have HN:=Zh hn;have HZ:=Zh hz;clear hn hz h1;unfold Yht at hE;go_enter Tryz.func54,Tryz.ntmps54;go_wp2_with fail;refine hE.mono ?_;clear hE;intro e w1 hP;cases X with
 |
  bad a c=>
  obtain⟨hK,rfl⟩:=hP;refine⟨rfl,?_⟩;rw[HR.out];exact⟨(keep_any (Keep.of_alloc (S:=fun _=>False) w _)).trans hK (fun _ _ q=>q),rfl⟩
 |
  ok left j0=>
  obtain⟨hK,v,rfl,hv,hR1⟩:=hP;have hij:=HGE.out _ _ rfl;clear HGE;obtain⟨ao2,cap2,rfl⟩:=hv.form;have hsz1:=hK.size;have hn1:w1.heap[w.heap.size]? =some (.cells Yht 39 (0,0)):=(hK.block _ Zs Zo).trans HN.out;have hS0:SeS B rb ao cap L en blocks R w (w1.alloc (.cells #[.slice ao2 left.len cap2,.slice none 0 0,.slice none 0 0,.slice none 0 0,.slice none 0 0] 39)) w1.heap.size (.slice ao2 left.len cap2) (.slice none 0 0) left [] j0 n0:=
   ⟨by omega,HR.out.symm,hR1.below (below_alloc1 w1 _),⟨((keep_any (Keep.of_alloc (S:=fun _=>False) w _)).trans hK (fun _ _ q=>q)).trans (Keep.of_alloc (S:=fun _=>False) w1 _) (fun _ _ q=>q.elim),
    (Below.heap_alloc w1 _ _ (Zg hn1).1).trans hn1,heap_alloc_new w1 _,(by simp only[World.size_alloc] at hsz1; omega),hv.below (below_alloc1 w1 _) (fun k q hk=>⟨by have q1:_<=k:=q; simp only[World.size_alloc] at q1; omega,hk⟩),OwnR.nil (fun _=>rfl)⟩,Nat.zero_le _⟩
  have HS0:=Zh hS0;clear hS0 hn1 hsz1 hR1 hv hK HN HZ HR h0;go_wp2_with fail;have hS0:=HS0.out;clear HS0;generalize w1.alloc (.cells #[.slice ao2 left.len cap2,.slice none 0 0,.slice none 0 0,.slice none 0 0,.slice none 0 0] 39)=W1 at hS0⊢;generalize w1.heap.size=g at hS0⊢;go_loopw [] (fun wr=>∃tests vt i n,i0<=i/\SeS B rb ao cap L en blocks R w wr g (.slice ao2 left.len cap2) vt left tests i n) (fun wr=>L.length - rdI rb wr)
  case atStart=>exact⟨[],_,j0,n0,hij,hS0⟩
  case round=>
   obtain⟨tests,vt,i,n,hi0,hS⟩:=hrel;obtain⟨n,rfl⟩:∃q,n=q+1:=⟨n - 1,by have:=hS.fuel; omega⟩;have hcnt:tests.length<=40000:=by have:=hS.cnt; have:=hS.rdr.le; omega
   have hgw:=hS.sw.size;have hgt0:=hS.sw.gt;have HOWN:Hid (∀q,vt.ownBlock=some q->q<wr.heap.size):=Zh fun q e1=>(hS.sw.own.own_lt q e1).2;cases hc:isN L i 6 YC with
   |
    false=>
    have hE2:=Yjb (en:=en) (n:=n) (blocks:=blocks) (left:=left) (tests:=tests) hc;rw[hS.eq] at hE2;have HE2:=Zh hE2;have hN:=YdB B rb ao cap L en i YC wr hS.rdr hc;clear hE2 hc;go_wp2_with fail;refine hN.mono ?_;clear hN;rintro e w2 ⟨rfl,hk2⟩;have hr2:=hS.rdr.keep hk2 (fun _ q=>q.elim);have hs2:=hS.sw.call hrb (keep_any hk2);have hM:=Ybv B rb ao cap L en i sEq w2 hr2;generalize YG L en i sEq=M at hM HE2;clear hr2 hk2;go_wp2_with fail;refine hM.mono ?_;clear hM;intro e w3 hP;cases M with
    |
     bad a c=>
     obtain⟨hK,rfl⟩:=hP;refine⟨rfl,?_⟩;rw[HE2.out];exact⟨hs2.keep.trans hK (fun _ _ q=>q),rfl⟩
    |
     ok u j=>
     obtain⟨hK,rfl,hr3⟩:=hP;have hs3:=hs2.call hrb hK;have hX:=Yeu HV.out B rb ao cap L en false j w3 hr3;have HE3:Hid (R=(Jo L en false j).bind fun r k=>.ok (.cons left tests r .nil .nil .nil) k):=HE2;clear HE2 hs2 hK hr3;generalize Jo L en false j=X at hX HE3;go_wp2_with fail;refine hX.mono ?_;clear hX;intro e w4 hP;cases X with
     |
      bad a c=>
      obtain⟨hK,rfl⟩:=hP;refine⟨rfl,?_⟩;rw[HE3.out];exact⟨hs3.keep.trans hK (fun _ _ q=>q),rfl⟩
     |
      ok r k=>
      obtain⟨hK,v,rfl,hv,hr4⟩:=hP;have HX:Hid (R= .ok (.cons left tests r .nil .nil .nil) k):=HE3;have hs4:=hs3.call hrb hK;obtain⟨ao4,cap4,rfl⟩:=hv.form;obtain⟨aot,capt,rfl⟩:=hs4.own.form;have h9:=hs4.store hrb 2 (.slice ao4 r.len cap4) (vr':=.slice ao4 r.len cap4) (vs':=.slice none 0 0) (vb':=.slice none 0 0) Zr;have hgt:=hs4.gt;have hsz4:=hs3.size;have hK9:=Keep.of_setCell w4 ⟨g,2,none⟩ (.slice ao4 r.len cap4);have HVR:=Zh (hv.keep (w':=w4.setCell ⟨g,2,none⟩ (.slice ao4 r.len cap4)) (T:=fun k=>w.heap.size<k) (fun k q hk=>hK9.block k hk (by show ¬k=g; omega)) (fun k q _=>by omega));have HVS:=Zh (TsV.nil (w4.setCell ⟨g,2,none⟩ (.slice ao4 r.len cap4)) (fun k=>w.heap.size<k));have HVB:=Zh (SsV.nil (w4.setCell ⟨g,2,none⟩ (.slice ao4 r.len cap4)) (fun k=>w.heap.size<k));have HR9:=Zh (hr4.keep hK9 (fun k q=>by have:k=g:=q; omega));have H9:=Zh h9;have y2:=hs4.f1 2;have H8:=Zh hs4;clear h9 hs4 hs3 hK9 hK hr4 hv HE3 hgt hsz4;have q0:=H8.out.cell.1;have q1:=H8.out.cell.2.1;have q2:=H8.out.cell.2.2.1;have q3:=H8.out.cell.2.2.2.1;have q4:=H8.out.cell.2.2.2.2;have z0:=H8.out.zero 0 Zd;have z1:=H8.out.zero 1 Zd;have z2:=H8.out.zero 2 Zd;have z3:=H8.out.zero 3 Zd;have z4:=H8.out.zero 4 Zd;have g0:=H8.out.f0 0;have g1:=H8.out.f0 1;have g2:=H8.out.f0 2;have g3:=H8.out.f0 3;have g4:=H8.out.f0 4;have hng:¬g=w.heap.size:=by have:=H8.out.gt; omega
      have hgn:¬w.heap.size=g:=by have:=H8.out.gt; omega
      go_wp2_with fail;refine bodyPost_ret (v:=.agg #[.slice ao2 left.len cap2,.slice aot tests.length capt,(.slice ao4 r.len cap4),(.slice none 0 0),(.slice none 0 0)]) ?_ rfl ?_
      ·exact results_cell_row rfl _ _ w.heap.size 39 _ (0,0) _ rfl (YhT (w4.setCell ⟨g,2,none⟩ (.slice ao4 r.len cap4)) w.heap.size _ _ _ _ _ _ _ _ _ _ H9.out.r0) Tryz.underlying39 rfl YhW
      ·rw[HX.out];obtain⟨e1,e2⟩:=H9.out.done hrb (.slice ao2 left.len cap2) (.slice aot tests.length capt) (.slice ao4 r.len cap4) (.slice none 0 0) (.slice none 0 0) HVR.out HVS.out HVB.out;exact⟨e2,_,_,_,_,_,rfl,e1,HR9.out.keep (YeN _ _ _ _ _ _ _) (fun k q=>by omega)⟩
   |
    true=>
    have hE2:=YgX (en:=en) (n:=n) (blocks:=blocks) (left:=left) (tests:=tests) hc;rw[hS.eq] at hE2;have HE2:=Zh hE2;have hN:=Yci B rb ao cap L en i YC wr hS.rdr hc;have hil:=Jf hc;clear hE2 hc;go_wp2_with fail;refine hN.mono ?_;clear hN;rintro e w2 ⟨rfl,hr2,hk2⟩;have hs2:=hS.sw.call hrb hk2;have hX:=Yeu HV.out B rb ao cap L en false (i+1) w2 hr2;have hge:∀l j,Jo L en false (i+1)= .ok l j->i+1<=j:=fun l j q=>J0 q;have HGE:=Zh hge;clear hge;generalize Jo L en false (i+1)=X at hX HE2 HGE;clear hr2;go_wp2_with fail;refine hX.mono ?_;clear hX;intro e w3 hP;cases X with
    |
     bad a c=>
     obtain⟨hK,rfl⟩:=hP;refine⟨rfl,?_⟩;rw[HE2.out];exact⟨hs2.keep.trans hK (fun _ _ q=>q),rfl⟩
    |
     ok x j=>
     obtain⟨hK,v,rfl,hv,hr3⟩:=hP;have hij:=HGE.out _ _ rfl;have hs3:=hs2.call hrb hK;have hsz2:wr.heap.size<=w2.heap.size:=hk2.size;have hsz3:wr.heap.size<=w3.heap.size:=Nat.le_trans hsz2 hK.size;obtain⟨ao4,cap4,rfl⟩:=hv.form;have hM:=Ybv B rb ao cap L en j Yaw w3 hr3;have HE3:Hid (R=(YG L en j Yaw).bind fun _ k=>if isN L k 6 YQ=true then (if 6<=blocks then JA L en k 54 else (YA L en n (blocks+1) (k+1)).bind fun b m=>.ok (.cons left tests .nil x b .nil) m) else (Jo L en true k).bind fun p m=>Y9 L en n blocks m left (tests++[(x,p)])):=HE2;clear HE2 hs2 hK hr3 HGE;generalize hm:YG L en j Yaw=M at hM HE3;have HMN:=Zh hm;clear hm;go_wp2_with fail;refine hM.mono ?_;clear hM;intro e w4 hP;cases M with
     |
      bad a c=>
      obtain⟨hK,rfl⟩:=hP;refine⟨rfl,?_⟩;rw[HE3.out];exact⟨hs3.keep.trans hK (fun _ _ q=>q),rfl⟩
     |
      ok u k=>
      obtain⟨hK,rfl,hr4⟩:=hP;have hik:i+2<=k:=by have:=(Y0 HMN.out).2; omega
      have HE4:Hid (R=if isN L k 6 YQ=true then (if 6<=blocks then JA L en k 54 else (YA L en n (blocks+1) (k+1)).bind fun b m=>.ok (.cons left tests .nil x b .nil) m) else (Jo L en true k).bind fun p m=>Y9 L en n blocks m left (tests++[(x,p)])):=HE3;have hs4:=hs3.call hrb hK;have hszw4:wr.heap.size<=w4.heap.size:=Nat.le_trans hsz3 hK.size;have hv4:TsV w4 (fun k=>wr.heap.size<=k) (.slice ao4 x.len cap4) x:=hv.keep (fun k q hk=>hK.block k hk Zo) (fun k q _=>by omega);have hIs:=YcC B rb ao cap L en k 6 YQ w4 hr4 Zd;clear HE3 hs3 hK hv HMN;generalize hb:isN L k 6 YQ=b at hIs HE4;have HB:=Zh hb;clear hb;cases b with
      |
       true=>
       by_cases hbl:6<=blocks
       ·have HX:Hid (R= .bad (Yby L en k) (YdU L k 54)):=Zh (by rw[HE4.out,if_pos rfl,if_pos hbl]; rfl);have d6:decide ((6:Int)<=(blocks:Int))=true:=Zt;clear HE4 hbl;go_wp2_with fail;refine hIs.mono ?_;clear hIs;rintro e w5 ⟨rfl,hk5⟩;have hF:=Yae B rb ao cap L en k 54 w5 (hr4.keep hk5 (fun _ q=>q.elim));have HK5:=Zh (hs4.keep.trans (keep_any hk5) (fun _ _ q=>q));clear hk5 hr4 hs4 hv4;go_wp2_with fail;refine hF.mono ?_;rintro e w6 ⟨rfl,hk6⟩;refine⟨rfl,?_⟩;rw[HX.out];exact⟨HK5.out.trans (keep_any hk6) (fun _ _ q=>q),rfl⟩
       ·have HE5:Hid (R=(YA L en n (blocks+1) (k+1)).bind fun b m=>.ok (.cons left tests .nil x b .nil) m):=Zh (by rw[HE4.out,if_pos rfl,if_neg hbl]);have d6:decide ((6:Int)<=(blocks:Int))=false:=Zf;have hkl:=Jf HB.out;have b0:(0:Int)<=(blocks:Int)+1:=Zo;have b1:(blocks:Int)+1<=7:=Zo;have a0:(0:Int)<=(k:Int)+1:=Zo;clear HE4;go_wp2_with fail;refine hIs.mono ?_;clear hIs;rintro e w5 ⟨rfl,hk5⟩;have hr5:=hr4.keep hk5 (fun _ q=>q.elim);have hs5:=hs4.call hrb (keep_any hk5);have hv5:TsV w5 (fun k=>wr.heap.size<=k) (.slice ao4 x.len cap4) x:=hv4.keep (fun k q hk=>hk5.block k hk (fun q=>q)) (fun k q _=>q);have c2:=hr5.c2;have f2:=hr5.f2;have hgt:=hs5.gt;have hK6:=Keep.of_setCell w5 ⟨rb,2,none⟩ (.int .i64 ((k:Int)+1));have hr6:Yp B (w5.setCell ⟨rb,2,none⟩ (.int .i64 ((k:Int)+1))) rb ao cap L en (k+1):=hr5.set (k+1) hkl;have hs6:=hs5.call hrb hK6;have hv6:TsV (w5.setCell ⟨rb,2,none⟩ (.int .i64 ((k:Int)+1))) (fun k=>wr.heap.size<=k) (.slice ao4 x.len cap4) x:=hv5.keep (fun k q hk=>hK6.block k hk (by show ¬k=rb; omega)) (fun k q _=>q);have hK7:=Keep.of_setCell (w5.setCell ⟨rb,2,none⟩ (.int .i64 ((k:Int)+1))) ⟨g,3,none⟩ (.slice ao4 x.len cap4);have hr7:=hr6.keep hK7 (fun k q=>by have:k=g:=q; omega);have hs7:=hs6.store hrb 3 (.slice ao4 x.len cap4) (vr':=.slice none 0 0) (vs':=.slice ao4 x.len cap4) (vb':=.slice none 0 0) Zr;have hv7:TsV ((w5.setCell ⟨rb,2,none⟩ (.int .i64 ((k:Int)+1))).setCell ⟨g,3,none⟩ (.slice ao4 x.len cap4)) (fun k=>wr.heap.size<=k) (.slice ao4 x.len cap4) x:=hv6.keep (fun k q hk=>hK7.block k hk (by show ¬k=g; omega)) (fun k q _=>q);have x3:=hs5.cell.2.2.2.1;have y3:=hs5.f1 3;have hne:rb≠g:=Zo;have hIH:=HI.out Zo n (k+1) _ Zo (by have:=hS.fuel; omega) hr7;have HIH:=Zh hIH;have HS7:=Zh hs7;have HV7:=Zh hv7;have HR7:=Zh hr7;clear hr5 hs5 hv5 hK6 hr6 hs6 hv6 hK7 hr7 hs7 hv7 hIH hk5 hr4 hs4 hv4 hbl;go_wp2_with fail;have hIH:=HIH.out;clear HIH c2 f2 x3 y3;generalize(w5.setCell ⟨rb,2,none⟩ (.int .i64 ((k:Int)+1))).setCell ⟨g,3,none⟩ (.slice ao4 x.len cap4)=w7 at hIH HS7 HV7 HR7⊢;generalize YA L en n (blocks+1) (k+1)=SN at hIH HE5;refine hIH.mono ?_;clear hIH;intro e w8 hP;cases SN with
        |
         bad a c=>
         obtain⟨hK,rfl⟩:=hP;refine⟨rfl,?_⟩;rw[HE5.out];exact⟨HS7.out.keep.trans hK (fun _ _ q=>q),rfl⟩
        |
         ok bl m=>
         obtain⟨hK,vb,rfl,hvb,hr8⟩:=hP;have HX:Hid (R= .ok (.cons left tests .nil x bl .nil) m):=HE5;have hs8:=HS7.out.call hrb hK;obtain⟨ao5,cap5,rfl⟩:=hvb.form;obtain⟨aot,capt,rfl⟩:=hs8.own.form;have hsz7:=HS7.out.size;have h9:=hs8.store hrb 4 (.slice ao5 bl.len cap5) (vr':=.slice none 0 0) (vs':=.slice ao4 x.len cap4) (vb':=.slice ao5 bl.len cap5) Zr;have hK9:=Keep.of_setCell w8 ⟨g,4,none⟩ (.slice ao5 bl.len cap5);have HVB:=Zh (hvb.keep (w':=w8.setCell ⟨g,4,none⟩ (.slice ao5 bl.len cap5)) (T:=fun k=>w.heap.size<k) (fun k q hk=>hK9.block k hk (by show ¬k=g; omega)) (fun k q _=>by omega));have HVS:=Zh ((HV7.out.keep (w':=w8) (T:=fun k=>wr.heap.size<=k) (fun k q hk=>hK.block k hk Zo) (fun k q _=>q)).keep (w':=w8.setCell ⟨g,4,none⟩ (.slice ao5 bl.len cap5)) (T:=fun k=>w.heap.size<k) (fun k q hk=>hK9.block k hk (by show ¬k=g; omega)) (fun k q _=>by omega));have HVR:=Zh (TsV.nil (w8.setCell ⟨g,4,none⟩ (.slice ao5 bl.len cap5)) (fun k=>w.heap.size<k));have HR9:=Zh (hr8.keep hK9 (fun k q=>by have:k=g:=q; omega));have H9:=Zh h9;have y2:=hs8.f1 4;have H8:=Zh hs8;clear h9 hs8 hK9 hK hr8 hvb HE5 HS7 HV7 HR7 hsz7 hgt hne;have q0:=H8.out.cell.1;have q1:=H8.out.cell.2.1;have q2:=H8.out.cell.2.2.1;have q3:=H8.out.cell.2.2.2.1;have q4:=H8.out.cell.2.2.2.2;have z0:=H8.out.zero 0 Zd;have z1:=H8.out.zero 1 Zd;have z2:=H8.out.zero 2 Zd;have z3:=H8.out.zero 3 Zd;have z4:=H8.out.zero 4 Zd;have g0:=H8.out.f0 0;have g1:=H8.out.f0 1;have g2:=H8.out.f0 2;have g3:=H8.out.f0 3;have g4:=H8.out.f0 4;have hng:¬g=w.heap.size:=by have:=H8.out.gt; omega
         have hgn:¬w.heap.size=g:=by have:=H8.out.gt; omega
         go_wp2_with fail;refine bodyPost_ret (v:=.agg #[.slice ao2 left.len cap2,.slice aot tests.length capt,(.slice none 0 0),(.slice ao4 x.len cap4),(.slice ao5 bl.len cap5)]) ?_ rfl ?_
         ·exact results_cell_row rfl _ _ w.heap.size 39 _ (0,0) _ rfl (YhT (w8.setCell ⟨g,4,none⟩ (.slice ao5 bl.len cap5)) w.heap.size _ _ _ _ _ _ _ _ _ _ H9.out.r0) Tryz.underlying39 rfl YhW
         ·rw[HX.out];obtain⟨e1,e2⟩:=H9.out.done hrb (.slice ao2 left.len cap2) (.slice aot tests.length capt) (.slice none 0 0) (.slice ao4 x.len cap4) (.slice ao5 bl.len cap5) HVR.out HVS.out HVB.out;exact⟨e2,_,_,_,_,_,rfl,e1,HR9.out.keep (YeN _ _ _ _ _ _ _) (fun k q=>by omega)⟩
      |
       false=>
       have HE5:Hid (R=(Jo L en true k).bind fun p m=>Y9 L en n blocks m left (tests++[(x,p)])):=Zh (by rw[HE4.out,if_neg Bool.false_ne_true]);clear HE4;go_wp2_with fail;refine hIs.mono ?_;clear hIs;rintro e w5 ⟨rfl,hk5⟩;have hr5:=hr4.keep hk5 (fun _ q=>q.elim);have hs5:=hs4.call hrb (keep_any hk5);have hv5:TsV w5 (fun k=>wr.heap.size<=k) (.slice ao4 x.len cap4) x:=hv4.keep (fun k q hk=>hk5.block k hk (fun q=>q)) (fun k q _=>q);have hX:=Yeu HV.out B rb ao cap L en true k _ (hr5.keep (Keep.of_drewN (S:=fun _=>False) w5 1) (fun _ q=>q.elim));have hge:∀l j,Jo L en true k= .ok l j->k<=j:=fun l j q=>J0 q;have HGE:=Zh hge;obtain⟨aot,capt,rfl⟩:=hs5.own.form;have c1:=hs5.cell.2.1;have y1:=hs5.f1 1;have hsz5:=hs5.size;have hgt5:=hs5.gt;have hsd:=hs5.call hrb (Keep.of_drewN (S:=fun k=>k=rb) w5 1);have hvd:TsV (w5.drewN 1) (fun k=>wr.heap.size<=k) (.slice ao4 x.len cap4) x:=hv5.keep (fun k q hk=>rfl) (fun k q _=>q);have hszw5:wr.heap.size<=w5.heap.size:=Nat.le_trans hszw4 hk5.size;clear hk5 hr4 hs4 hv4 hge;generalize Jo L en true k=X at hX HE5 HGE;cases X with
       |
        bad a c=>
        have HX:Hid (R= .bad a c):=HE5;have hXb:Calls Tryz.prog 102 #[.pointer (some ⟨rb,0,none⟩),.bool true] w5.drew fun e w'=>e=misR a c/\Keep (fun k=>k=rb) w w':=hX.mono fun e w' ⟨h1,h2⟩=>⟨h2,hsd.keep.trans h1 (fun _ _ q=>q)⟩;have HXB:=Zh hXb;clear hX hXb hsd hvd HE5 HGE;go_wp2_with fail;go_region_dies
        all_goals
         refine HXB.out.mono ?_;rintro e w6 ⟨rfl,hk6⟩;refine⟨rfl,?_⟩;rw[HX.out];exact⟨hk6,rfl⟩
       |
        ok p m=>
        have HE6:Hid (R=Y9 L en n blocks m left (tests++[(x,p)])):=HE5;have hkm:=HGE.out _ _ rfl;have hXo:Calls Tryz.prog 102 #[.pointer (some ⟨rb,0,none⟩),.bool true] w5.drew fun e w'=>∃ao6 cap6,e= .returned (.slice ao6 p.len cap6)/\TsV w' (fun k=>wr.heap.size<=k) (.slice ao6 p.len cap6) p/\TsV w' (fun k=>wr.heap.size<=k) (.slice ao4 x.len cap4) x/\Yp B w' rb ao cap L en m/\SeW B rb w w' g (.slice ao2 left.len cap2) (.slice aot tests.length capt) (.slice none 0 0) (.slice none 0 0) (.slice none 0 0) left tests:=hX.mono fun e w' ⟨h1,v,h2,h3,h4⟩=>by
         obtain⟨ao6,cap6,rfl⟩:=h3.form;exact⟨ao6,cap6,h2,h3.to (fun k q _=>by have q1:w5.heap.size<=k:=q; omega),hvd.keep (fun k q hk=>h1.block k hk Zo) (fun k q _=>q),h4,hsd.call hrb h1⟩
        have HXO:=Zh hXo;clear hX hXo hsd hvd HE5 HGE;go_wp2_with fail;go_region_law (first
         |(
           go_loud (refine YbY Zr _ _ _ Zr (g+1) 104 2 48 YpZ _ _ Zr HO6.out (Yag _) (Yag [(x,p)]) (Yi5 _ _) (some ⟨w6.heap.size,0,none⟩) 1 1 [.slice ao4 x.len cap4,.slice ao6 p.len cap6] Zr HG6.out Zr (fun _=>⟨_,0,rfl,HNW.out⟩) (by simp[Value.oneCell']) Zo Zo Zo ?_)
           intro v7 w7 hO7 hK7 hat7;obtain⟨ao7,cap7,rfl⟩:=hO7.form;have HS7:=Zh (HSA.out.push hrb hK7 hO7);have HR7:=Zh ((HRA.out.keep hK7 (fun k q=>by have:=(HO6.out.own_lt k q).1; omega)).keep (Keep.of_setCell w7 ⟨g,1,none⟩ (.slice ao7 (tests.length+1) cap7)) (fun k q=>by have:k=g:=q; omega));have y7:w7.frozen? ⟨g,1,none⟩=false:=(World.frozen?_of_block (hK7.block g Zo (fun q=>by have:=(HO6.out.own_lt g q).1; omega))).trans (HSA.out.f1 1);have x7:w7.cell? ⟨g,1,none⟩=some (.slice aot tests.length capt):=(World.cell?_of_block (a:=⟨g,1,none⟩) (hK7.block g Zo (fun q=>by have:=(HO6.out.own_lt g q).1; omega))).trans HSA.out.cell.2.1;clear hO7 hK7 hat7)
         |(
           go_simp
           go_at_call 102;refine HXO.out.mono ?_;rintro e w6 ⟨ao6,cap6,rfl,hv6,hx6,hr6,hs6⟩;have c1:=hs6.cell.2.1;have hsz6:=hs6.size;have hba:=below_alloc1 w6 (.cells #[.slice ao4 x.len cap4,.slice ao6 p.len cap6] 104);have hza:(w6.alloc (.cells #[.slice ao4 x.len cap4,.slice ao6 p.len cap6] 104)).heap.size=w6.heap.size+1:=Zs;have HSA:=Zh (hs6.call hrb (Keep.of_alloc (S:=fun k=>k=rb) w6 (.cells #[.slice ao4 x.len cap4,.slice ao6 p.len cap6] 104)));have HRA:=Zh (hr6.below hba);have HO6:=Zh HSA.out.own;have HG6:Hid (Yd3 [(x,p)] (w6.alloc (.cells #[.slice ao4 x.len cap4,.slice ao6 p.len cap6] 104)) (fun k=>g+1<=k/\(Value.slice aot tests.length capt).ownBlock≠some k) [.slice ao4 x.len cap4,.slice ao6 p.len cap6]):=Zh ⟨_,_,[],rfl,hx6.below hba (fun q e1 _=>⟨by have e2:wr.heap.size<=q:=e1; omega,fun e3=>by have e2:wr.heap.size<=q:=e1; have:=HOWN.out q e3; omega⟩),hv6.below hba (fun q e1 _=>⟨by have e2:wr.heap.size<=q:=e1; omega,fun e3=>by have e2:wr.heap.size<=q:=e1; have:=HOWN.out q e3; omega⟩),rfl⟩;have HNW:=Zh (news2 w6 (.slice ao4 x.len cap4) (.slice ao6 p.len cap6) 104);clear hv6 hx6 hr6 hs6 hba))
        all_goals
         go_wp2;go_roundw
         case rel=>
          refine⟨tests++[(x,p)],_,m,n,by omega,⟨?_,HE6.out.symm,HR7.out,HS7.out,?_⟩⟩
          ·have:=hS.fuel; have:=HR7.out.le; omega
          ·rw[List.length_append,List.length_singleton]; have:=hS.cnt; omega
         case measure=>
          have e1:=HR7.out.rdI;have e2:=hS.rdr.rdI;rw[e1,e2];omega
theorem Y3.form {w:World}{S:Nat->Prop}{v:Value}{l:List (Ts×Ts)}(h:Y3 w S v l):∃ao cap,v= .slice ao l.length cap:=by obtain⟨a,c,e,_⟩:=h; exact⟨a,c,e⟩
theorem news5 (w:World)(a b c d e:Value)(t:TypeId):∀j u,[a,b,c,d,e][j]? =some u->(w.alloc (.cells #[a,b,c,d,e] t)).cell? ⟨w.heap.size,0+j,none⟩=some u:=by
 intro j u h;rw[cell_of_row _ w.heap.size (0+j) #[a,b,c,d,e] t (0,0) (heap_alloc_new w _),Nat.zero_add];simpa using h
structure SsS (B rb:Nat)(ao:Option Addr)(cap:Nat)(L:List Tk)(en blocks:Nat)(R:Rd Ss)(w wr:World)(v:Value)(acc:Ss)(i n:Nat):Prop where
 fuel:L.length - i+2<=n
 eq:JD L en n blocks i acc=R
 rdr:Yp B wr rb ao cap L en i
 own:OwnR wr w.heap.size 39 5 v acc.len (ssF acc)
 keep:Keep (fun k=>k=rb) w wr
 cnt:acc.len<=i
theorem Yd6 (B rb:Nat)(ao:Option Addr)(cap:Nat)(L:List Tk)(en blocks i0 n0:Nat)(w:World)(h0:Yp B w rb ao cap L en i0)(hblocks:blocks<=6)(hn0:L.length - i0+3<=n0)
 (IH:∀(n i:Nat) (w':World),i0<=i->L.length - i+1<=n->Yp B w' rb ao cap L en i->Calls Tryz.prog 54 #[.pointer (some ⟨rb,0,none⟩),.int .i64 blocks] w' (Ydq B rb ao cap L en w' (Jl L en n blocks i))):
 Calls Tryz.prog 97 #[.pointer (some ⟨rb,0,none⟩),.int .i64 blocks] w (Ydp B rb ao cap L en w (YA L en n0 blocks i0)):=by
 have hw:=h0.size;have hrb:rb<w.heap.size:=h0.lt;have hfew:=h0.few;have hlow:=h0.low;have HI:Hid _:=IH;clear IH;obtain⟨n0,rfl⟩:∃q,n0=q+1:=⟨n0 - 1,by omega⟩;have hI1:=YcC B rb ao cap L en i0 6 sEnd w h0 Zd;have HR:Hid (YA L en (n0+1) blocks i0=if isN L i0 6 sEnd=true\/isN L i0 6 Ja=true then JA L en i0 53 else JD L en n0 blocks i0 .nil):=Zh (by conv=>lhs; unfold YA);generalize YA L en (n0+1) blocks i0=R at HR⊢;cases hb1:isN L i0 6 sEnd with
 |
  true=>
  have HX:Hid (R= .bad (Yby L en i0) (YdU L i0 53)):=Zh (by rw[HR.out,if_pos (.inl hb1)]; rfl);rw[hb1] at hI1;clear hb1 HR HI;go_enter Tryz.func97,Tryz.ntmps97;go_wp2_with fail;refine hI1.mono ?_;rintro e w1 ⟨rfl,hk1⟩;have hF:=Yae B rb ao cap L en i0 53 w1 (h0.keep hk1 (fun _ q=>q.elim));clear hI1;go_wp2_with fail;refine hF.mono ?_;rintro e w2 ⟨rfl,hk2⟩;refine⟨rfl,?_⟩;rw[HX.out];exact⟨keep_any (hk1.trans hk2 (fun _ _ q=>q)),rfl⟩
 |
  false=>
  rw[hb1] at hI1;cases hb2:isN L i0 6 Ja with
  |
   true=>
   have HX:Hid (R= .bad (Yby L en i0) (YdU L i0 53)):=Zh (by rw[HR.out,if_pos (.inr hb2)]; rfl);have HB2:=Zh hb2;clear hb1 HR HI hb2;go_enter Tryz.func97,Tryz.ntmps97;go_wp2_with fail;refine hI1.mono ?_;rintro e w1 ⟨rfl,hk1⟩;have h1:=h0.keep hk1 (fun _ q=>q.elim);have hI2:=YcC B rb ao cap L en i0 6 Ja w1 h1 Zd;rw[HB2.out] at hI2;clear hI1;go_wp2_with fail;refine hI2.mono ?_;rintro e w2 ⟨rfl,hk2⟩;have hF:=Yae B rb ao cap L en i0 53 w2 (h1.keep hk2 (fun _ q=>q.elim));clear hI2;go_wp2_with fail;refine hF.mono ?_;rintro e w3 ⟨rfl,hk3⟩;refine⟨rfl,?_⟩;rw[HX.out];exact⟨keep_any ((hk1.trans hk2 (fun _ _ q=>q)).trans hk3 (fun _ _ q=>q)),rfl⟩
  |
   false=>
   have HX:Hid (JD L en n0 blocks i0 .nil=R):=Zh (by rw[HR.out,if_neg (by rw[hb1,hb2]; decide)]);have HB2:=Zh hb2;clear hb1 HR hb2;go_enter Tryz.func97,Tryz.ntmps97;go_wp2_with fail;refine hI1.mono ?_;rintro e w1 ⟨rfl,hk1⟩;have h1:=h0.keep hk1 (fun _ q=>q.elim);have hI2:=YcC B rb ao cap L en i0 6 Ja w1 h1 Zd;rw[HB2.out] at hI2;clear hI1;go_wp2_with fail;refine hI2.mono ?_;rintro e w2 ⟨rfl,hk2⟩;have h2:=h1.keep hk2 (fun _ q=>q.elim);have hk12:Keep (fun k=>k=rb) w w2:=keep_any (hk1.trans hk2 (fun _ _ q=>q));clear hI2 hk1 hk2 h1 h0;go_wp2_with fail;go_loopw [5] (fun v wr=>∃acc i n,i0<=i/\SsS B rb ao cap L en blocks R w wr v acc i n) (fun _ wr=>L.length - rdI rb wr)
   case atStart=>exact⟨.nil,i0,n0,Nat.le_refl _,by omega,HX.out,h2,OwnR.nil (fun _=>rfl),hk12,Nat.zero_le _⟩
   case round=>
    obtain⟨acc,i,n,hi0,hS⟩:=hrel;obtain⟨n,rfl⟩:∃q,n=q+1:=⟨n - 1,by have:=hS.fuel; omega⟩;have hcnt:acc.len<=40000:=by have:=hS.cnt; have:=hS.rdr.le; omega
    have hSN:=HI.out n i wr hi0 (by have:=hS.fuel; omega) hS.rdr;have hE:=Yqf (L:=L) (en:=en) (n:=n) (blocks:=blocks) (i:=i) (acc:=acc);rw[hS.eq] at hE;have hge:∀s k,Jl L en n blocks i= .ok s k->i<k/\s.len=1:=fun s k q=>⟨Yja q,by
     obtain⟨l,j,_,q2⟩:=Rd.bind_inv q;exact YgY _ _ _ _ _ _ _ q2⟩
    have HGE:=Zh hge;generalize Jl L en n blocks i=SN at hSN hE HGE;have HE:=Zh hE;clear hE hge;go_wp2_with fail;refine hSN.mono ?_;clear hSN;intro e w3 hP;cases SN with
    |
     bad a c=>
     obtain⟨hK,rfl⟩:=hP;refine⟨rfl,?_⟩;rw[HE.out];exact⟨hS.keep.trans hK (fun _ _ q=>q),rfl⟩
    |
     ok s k=>
     obtain⟨hK,v0,v1,v2,v3,v4,rfl,hfl,hr3⟩:=hP;obtain⟨hik,hs1⟩:=HGE.out _ _ rfl;have HE2:Hid (R=if isN L k 6 Ja=true then (if isN L (k+1) 6 sEnd=true then .ok (acc.app s) (k+2) else JD L en n blocks (k+1) (acc.app s)) else if isN L k 6 sEnd=true then .ok (acc.app s) (k+1) else JA L en k 50):=HE;clear HE HGE;obtain⟨f0,f1,f2,f3,f4⟩:(∃a c n,v0= .slice a n c)/\(∃a c n,v1= .slice a n c)/\(∃a c n,v2= .slice a n c)/\(∃a c n,v3= .slice a n c)/\(∃a c n,v4= .slice a n c):=by
      cases s with
      |nil=>cases hs1
      |
       cons l t r sb bl rest=>
       obtain⟨u0,u1,u2,u3,u4,ys,e1,h0,h1,h2,h3,h4,_⟩:=hfl;cases e1;obtain⟨a0,c0,e0⟩:=h0.form;obtain⟨a1,c1,e1⟩:=h1.form;obtain⟨a2,c2,e2⟩:=h2.form;obtain⟨a3,c3,e3⟩:=h3.form;obtain⟨a4,c4,e4⟩:=h4.form;exact⟨⟨_,_,_,e0⟩,⟨_,_,_,e1⟩,⟨_,_,_,e2⟩,⟨_,_,_,e3⟩,⟨_,_,_,e4⟩⟩
     obtain⟨a0,c0,m0,rfl⟩:=f0;obtain⟨a1,c1,m1,rfl⟩:=f1;obtain⟨a2,c2,m2,rfl⟩:=f2;obtain⟨a3,c3,m3,rfl⟩:=f3;obtain⟨a4,c4,m4,rfl⟩:=f4;have hba:=below_alloc1 w3 (.cells #[.slice a0 m0 c0,.slice a1 m1 c1,.slice a2 m2 c2,.slice a3 m3 c3,.slice a4 m4 c4] 39);have hsz3:=hK.size;have hsz:=hS.keep.size;have HO:=Zh ((hS.own.keep (JV _) hK (fun k q=>by omega)).below (JV _) hba);have HR3:=Zh (hr3.below hba);have HK:=Zh ((hS.keep.trans hK (fun _ _ q=>q)).trans (Keep.of_alloc (S:=fun _=>False) w3 (.cells #[.slice a0 m0 c0,.slice a1 m1 c1,.slice a2 m2 c2,.slice a3 m3 c3,.slice a4 m4 c4] 39)) (fun _ _ q=>q.elim));have hG:ssF s (w3.alloc (.cells #[.slice a0 m0 c0,.slice a1 m1 c1,.slice a2 m2 c2,.slice a3 m3 c3,.slice a4 m4 c4] 39)) (fun k=>w.heap.size<=k/\u5.ownBlock≠some k) [.slice a0 m0 c0,.slice a1 m1 c1,.slice a2 m2 c2,.slice a3 m3 c3,.slice a4 m4 c4]:=
      Ss.flat_keep s _ hfl (fun k q hk=>hba.block k hk) (fun k q hk=>⟨by have q1:wr.heap.size<=k:=q; omega,fun e1=>by have q1:wr.heap.size<=k:=q; have:=(hS.own.own_lt k e1).2; omega⟩)
     have HG:=Zh hG;have HNW:=Zh (news5 w3 (.slice a0 m0 c0) (.slice a1 m1 c1) (.slice a2 m2 c2) (.slice a3 m3 c3) (.slice a4 m4 c4) 39);have HOL:Hid (∀q,u5.ownBlock=some q->w.heap.size<=q):=Zh fun q e1=>(hS.own.own_lt q e1).1;have HS1:=Zh hs1;clear hfl hr3 hK hG hba hs1;go_wp2_with (
      at_builtin;refine Jg rfl _ _ 37 rfl w.heap.size 39 5 120 Yp4 _ _ rfl HO.out (JV _) (JV s) (Yp1 _ _) (some ⟨w3.heap.size,0,none⟩) 1 1 [.slice a0 m0 c0,.slice a1 m1 c1,.slice a2 m2 c2,.slice a3 m3 c3,.slice a4 m4 c4] rfl HG.out rfl (fun _=>⟨_,0,rfl,HNW.out⟩) (by simp[Value.oneCell']) Zo Zo (by have:=HK.out.size; omega) ?_;intro v7 w7 hO7 hK7 hat7;have HO7:Hid (OwnR w7 w.heap.size 39 5 v7 (acc.app s).len (ssF (acc.app s))):=Zh (by rw[Ss.len_app,HS1.out]; exact hO7);have HR7:=Zh (HR3.out.keep hK7 (fun k q=>Nat.le_trans hw (HOL.out k q)));have HK7:=Zh (HK.out.new hK7 (fun k q=>HOL.out k q));clear hO7 hK7 hat7)
     cases hc:isN L k 6 Ja with
     |
      true=>
      have hN:=Yci B rb ao cap L en k Ja w7 HR7.out hc;have HE3:Hid (R=if isN L (k+1) 6 sEnd=true then .ok (acc.app s) (k+2) else JD L en n blocks (k+1) (acc.app s)):=Zh (by rw[HE2.out,if_pos hc]);clear hc;refine hN.mono ?_;clear hN;rintro e w8 ⟨rfl,hr8,hk8⟩;have HO8:=Zh (HO7.out.keep (JV _) hk8 (fun q e1=>by omega));have HK8:=Zh (HK7.out.trans hk8 (fun _ _ q=>q));have HR8:=Zh hr8;clear hr8 hk8;go_wp2_with fail;cases hd:isN L (k+1) 6 sEnd with
      |
       true=>
       have hN:=Yci B rb ao cap L en (k+1) sEnd w8 HR8.out hd;have HX2:Hid (R= .ok (acc.app s) (k+2)):=Zh (by rw[HE3.out,if_pos hd]);clear hd;refine hN.mono ?_;clear hN;rintro e w9 ⟨rfl,hr9,hk9⟩;have HO9:=Zh (HO8.out.keep (JV _) hk9 (fun q e1=>by omega));have HK9:=Zh (HK8.out.trans hk9 (fun _ _ q=>q));have HR9:=Zh hr9;clear hr9 hk9;go_wp2_with fail;go_ret;rw[HX2.out];exact⟨HK9.out,_,rfl,HO9.out.ssV,HR9.out⟩
      |
       false=>
       have hN:=YdB B rb ao cap L en (k+1) sEnd w8 HR8.out hd;have HX2:Hid (JD L en n blocks (k+1) (acc.app s)=R):=Zh (by rw[HE3.out,hd,if_neg Bool.false_ne_true]);clear hd;refine hN.mono ?_;clear hN;rintro e w9 ⟨rfl,hk9⟩;have HO9:=Zh (HO8.out.keep (JV _) hk9 (fun q e1=>e1.elim));have HK9:=Zh (HK8.out.trans hk9 (fun _ _ q=>q.elim));have HR9:=Zh (HR8.out.keep hk9 (fun _ q=>q.elim));clear hk9;go_wp2_with fail;go_roundw
       case rel=>
        refine⟨acc.app s,k+1,n,by omega,⟨?_,HX2.out,HR9.out,HO9.out,HK9.out,?_⟩⟩
        ·have:=hS.fuel; have:=HR9.out.le; omega
        ·rw[Ss.len_app,HS1.out]; have:=hS.cnt; omega
       case measure=>
        have e1:=HR9.out.rdI;have e2:=hS.rdr.rdI;rw[e1,e2];have:=HR9.out.le;omega
     |
      false=>
      have hN:=YdB B rb ao cap L en k Ja w7 HR7.out hc;have HE3:Hid (R=if isN L k 6 sEnd=true then .ok (acc.app s) (k+1) else JA L en k 50):=Zh (by rw[HE2.out,hc,if_neg Bool.false_ne_true]);clear hc;refine hN.mono ?_;clear hN;rintro e w8 ⟨rfl,hk8⟩;have HO8:=Zh (HO7.out.keep (JV _) hk8 (fun q e1=>e1.elim));have HK8:=Zh (HK7.out.trans hk8 (fun _ _ q=>q.elim));have HR8:=Zh (HR7.out.keep hk8 (fun _ q=>q.elim));clear hk8;go_wp2_with fail;cases hd:isN L k 6 sEnd with
      |
       true=>
       have hN:=Yci B rb ao cap L en k sEnd w8 HR8.out hd;have HX2:Hid (R= .ok (acc.app s) (k+1)):=Zh (by rw[HE3.out,if_pos hd]);clear hd;refine hN.mono ?_;clear hN;rintro e w9 ⟨rfl,hr9,hk9⟩;have HO9:=Zh (HO8.out.keep (JV _) hk9 (fun q e1=>by omega));have HK9:=Zh (HK8.out.trans hk9 (fun _ _ q=>q));have HR9:=Zh hr9;clear hr9 hk9;go_wp2_with fail;go_ret;rw[HX2.out];exact⟨HK9.out,_,rfl,HO9.out.ssV,HR9.out⟩
      |
       false=>
       have hN:=YdB B rb ao cap L en k sEnd w8 HR8.out hd;have HX2:Hid (R= .bad (Yby L en k) (YdU L k 50)):=Zh (by rw[HE3.out,hd,if_neg Bool.false_ne_true]; rfl);clear hd;refine hN.mono ?_;clear hN;rintro e w9 ⟨rfl,hk9⟩;have HK9:=Zh (HK8.out.trans hk9 (fun _ _ q=>q.elim));have hF:=Yae B rb ao cap L en k 50 w9 (HR8.out.keep hk9 (fun _ q=>q.elim));clear hk9;go_wp2_with fail;refine hF.mono ?_;rintro e w10 ⟨rfl,hk10⟩;refine⟨rfl,?_⟩;rw[HX2.out];exact⟨HK9.out.trans hk10 (fun _ _ q=>q.elim),rfl⟩
theorem both_any (hV:J3)(B rb:Nat)(ao:Option Addr)(cap:Nat)(L:List Tk)(en:Nat):∀(m:Nat),
 (∀(i blocks n:Nat) (w:World),L.length - i<=m->blocks<=6->L.length - i+1<=n->Yp B w rb ao cap L en i->Calls Tryz.prog 54 #[.pointer (some ⟨rb,0,none⟩),.int .i64 blocks] w (Ydq B rb ao cap L en w (Jl L en n blocks i)))/\
 (∀(i blocks n:Nat) (w:World),L.length - i<=m->blocks<=6->L.length - i+3<=n->Yp B w rb ao cap L en i->Calls Tryz.prog 97 #[.pointer (some ⟨rb,0,none⟩),.int .i64 blocks] w (Ydp B rb ao cap L en w (YA L en n blocks i)))
 |
  0=>by
  have h1:∀(i blocks n:Nat) (w:World),L.length - i<=0->blocks<=6->L.length - i+1<=n->Yp B w rb ao cap L en i->Calls Tryz.prog 54 #[.pointer (some ⟨rb,0,none⟩),.int .i64 blocks] w (Ydq B rb ao cap L en w (Jl L en n blocks i)):=
   fun i blocks n w h1 h2 h3 h4=>YeP hV B rb ao cap L en blocks i n w h4 h2 h3 (fun hb n' j w' hj hf hr=>by have:=hr.le; have:=h4.le; omega)
  exact⟨h1,fun i blocks n w h2 h3 h4 h5=>Yd6 B rb ao cap L en blocks i n w h5 h3 h4 (fun n' j w' hj hf hr=>h1 j blocks n' w' Zo h3 hf hr)⟩
 |
  m+1=>by
  obtain⟨ih1,ih2⟩:=both_any hV B rb ao cap L en m;have h1:∀(i blocks n:Nat) (w:World),L.length - i<=m+1->blocks<=6->L.length - i+1<=n->Yp B w rb ao cap L en i->Calls Tryz.prog 54 #[.pointer (some ⟨rb,0,none⟩),.int .i64 blocks] w (Ydq B rb ao cap L en w (Jl L en n blocks i)):=
   fun i blocks n w h1 h2 h3 h4=>YeP hV B rb ao cap L en blocks i n w h4 h2 h3 (fun hb n' j w' hj hf hr=>ih2 j (blocks+1) n' w' Zo Zo hf hr)
  exact⟨h1,fun i blocks n w h2 h3 h4 h5=>Yd6 B rb ao cap L en blocks i n w h5 h3 h4 (fun n' j w' hj hf hr=>h1 j blocks n' w' Zo h3 hf hr)⟩
theorem Yc9 (hV:J3)(B rb:Nat)(ao:Option Addr)(cap:Nat)(L:List Tk)(en i blocks n:Nat)(w:World)(hb:blocks<=6)(hn:L.length - i+3<=n)(h:Yp B w rb ao cap L en i):
 Calls Tryz.prog 97 #[.pointer (some ⟨rb,0,none⟩),.int .i64 blocks] w (Ydp B rb ao cap L en w (YA L en n blocks i)):=(both_any hV B rb ao cap L en _).2 i blocks n w (Nat.le_refl _) hb hn h
theorem YpE:SlTy Tryz.prog 23 9 1 16:=YdA (z:=.string ⟨#[]⟩) Tryz.underlying23 (by kernel_rfl) rfl Zd
theorem YpJ:SlTy Tryz.prog 24 63 3 48:=YdA (z:=.agg #[.string ⟨#[]⟩,.bool false,.slice none 0 0]) Tryz.underlying24 (by kernel_rfl) rfl Zd
def fnX (ve:Value)(l:List Fn)(w:World)(S:Nat->Prop)(xs:List Value):Prop:=JZ w (fun k=>S k/\ve.ownBlock≠some k) l xs
theorem Yal (ve:Value)(l:List Fn):Ybj (fnX ve l):=fun _ _ _ _ xs h hk hT=>Yad l xs h (fun k q=>hk k q.1) (fun k q hl=>⟨hT k q.1 hl,q.2⟩)
theorem Ykz (ve:Value)(l:List Fn)(f:Fn)(w:World)(S:Nat->Prop)(xs ys:List Value)(h:fnX ve l w S xs)(k:fnX ve [f] w S ys):fnX ve (l++[f]) w S (xs++ys):=by
 obtain⟨v,zs,e,hv,hz⟩:=k;rw[show zs=[] from hz] at e;rw[e];exact YcE l f xs v h hv
theorem Ykb {w:World}{B:Nat}{e:TypeId}{size:Nat}{v:Value}{n:Nat}{F:World->(Nat->Prop)->List Value->Prop}(h:OwnR w B e size v n F){k:Nat}(hk:v.ownBlock=some k):∃c,w.heap[k]? =some (.cells c e (0,0)):=by
 obtain⟨xs,ho,_⟩:=h;exact Yr ho hk
structure ModW (B rb mb:Nat)(wr:World)(ve vf:Value)(m:Md):Prop where
 row:wr.heap[mb]? =some (.cells #[ve,vf] 26 (0,0))
 low:mb<B
 apart:mb≠rb
 rlow:rb<B
 ext:OwnR wr B 9 1 ve m.externs.length (stF m.externs)
 fns:OwnR wr B 63 3 vf m.funcs.length (fnX ve m.funcs)
section
variable {B rb mb:Nat}{wr W w7:World}{ve vf ve' vf':Value}{m:Md}
theorem ModW.lt (h:ModW B rb mb wr ve vf m):mb<wr.heap.size:=(Zg h.row).1
theorem ModW.c0 (h:ModW B rb mb wr ve vf m):wr.cell? ⟨mb,0,none⟩=some ve:=by simp[World.cell?,h.row]
theorem ModW.c1 (h:ModW B rb mb wr ve vf m):wr.cell? ⟨mb,1,none⟩=some vf:=by simp[World.cell?,h.row]
theorem ModW.f (h:ModW B rb mb wr ve vf m)(o:Nat):wr.frozen? ⟨mb,o,none⟩=false:=by simp[World.frozen?,h.row]
theorem ModW.call (h:ModW B rb mb wr ve vf m)(hK:Keep (fun k=>k=rb) wr W):ModW B rb mb W ve vf m:=by
 have hr:=h.rlow;exact⟨(hK.block _ h.lt h.apart).trans h.row,h.low,h.apart,hr,h.ext.keep (Yaj _) hK (fun k q=>by omega),h.fns.keep (Yal _ _) hK (fun k q=>by omega)⟩
theorem ModW.new {S:Nat->Prop}(h:ModW B rb mb wr ve vf m)(hK:Keep S wr W)(hS:∀k,S k->wr.heap.size<=k):ModW B rb mb W ve vf m:=by
 have hK2:Keep (fun k=>k=rb) wr W:=Keep.trans (Keep.refl (fun k=>k=rb) wr) hK (fun k hk q=>by have:=hS k q; omega);exact h.call hK2
theorem own_ne {w:World}{B1 B2:Nat}{e1 e2:TypeId}{s1 s2:Nat}{v1 v2:Value}{n1 n2:Nat}{F1 F2:World->(Nat->Prop)->List Value->Prop}(h1:OwnR w B1 e1 s1 v1 n1 F1)(h2:OwnR w B2 e2 s2 v2 n2 F2)(he:e1≠e2){k:Nat}(hk:v1.ownBlock=some k):v2.ownBlock≠some k:=by
 intro q;obtain⟨c,hc⟩:=Ykb h1 hk;obtain⟨d,hd⟩:=Ykb h2 q;rw[hc] at hd;cases hd;exact he rfl
theorem ModW.pushE {s:ByteArray}(h:ModW B rb mb wr ve vf m)(hK:Keep (fun k=>ve.ownBlock=some k) wr w7)(hO:OwnR w7 B 9 1 ve' (m.externs.length+1) (stF (m.externs++[s])))(hat:ve'.ownBlock=ve.ownBlock\/ve'.ownBlock=some wr.heap.size):
 ModW B rb mb (w7.setCell ⟨mb,0,none⟩ ve') ve' vf ⟨m.externs++[s],m.funcs⟩:=by
 have hlow:=h.low;have hb:∀k,ve.ownBlock=some k->B<=k:=fun k q=>(h.ext.own_lt k q).1;have r7:=(hK.block mb h.lt (fun q=>by have:=hb _ q; omega)).trans h.row;have K2:=Keep.of_setCell w7 ⟨mb,0,none⟩ ve';refine⟨by have:=heap_setCell_same w7 mb 0 _ _ ve' r7; simpa using this,hlow,h.apart,h.rlow,?_,?_⟩
 ·show OwnR _ B _ 1 ve' (m.externs++[s]).length (stF (m.externs++[s]));rw[List.length_append,List.length_singleton];exact hO.keep (Yaj _) K2 (fun k q=>by have:k=mb:=q; omega)
 ·show OwnR _ B _ 3 vf m.funcs.length (fnX ve' m.funcs);obtain⟨xs,ho,hf⟩:=h.fns;have hne:∀k,vf.ownBlock=some k->ve.ownBlock≠some k:=fun k q=>own_ne h.fns h.ext Zd q;have ho7:w7.ownsRow B 63 3 vf m.funcs.length xs:=hK.owns ho (fun k e q=>hne k e q);have hf7:JZ w7 (fun k=>(B<=k/\vf.ownBlock≠some k)/\ve'.ownBlock≠some k) m.funcs xs:=Yad _ xs hf (fun k q hk=>hK.block k hk q.2) (fun k q hk=>⟨q.1,fun e1=>by
   rcases hat with e2 | e2
   ·exact q.2 (e2.symm.trans e1)
   ·rw[e2] at e1; cases e1; omega⟩)
  have h7:OwnR w7 B 63 3 vf m.funcs.length (fnX ve' m.funcs):=⟨xs,ho7,hf7⟩;exact h7.keep (Yal _ _) K2 (fun k q=>by have:k=mb:=q; omega)
theorem ModW.pushF {f:Fn}(h:ModW B rb mb wr ve vf m)(hK:Keep (fun k=>vf.ownBlock=some k) wr w7)(hO:OwnR w7 B 63 3 vf' (m.funcs.length+1) (fnX ve (m.funcs++[f]))):
 ModW B rb mb (w7.setCell ⟨mb,1,none⟩ vf') ve vf' ⟨m.externs,m.funcs++[f]⟩:=by
 have hlow:=h.low;have hb:∀k,vf.ownBlock=some k->B<=k:=fun k q=>(h.fns.own_lt k q).1;have r7:=(hK.block mb h.lt (fun q=>by have:=hb _ q; omega)).trans h.row;have K2:=Keep.of_setCell w7 ⟨mb,1,none⟩ vf';refine⟨by have:=heap_setCell_same w7 mb 1 _ _ vf' r7; simpa using this,hlow,h.apart,h.rlow,?_,?_⟩
 ·obtain⟨xs,ho,hf⟩:=h.ext;have hne:∀k,ve.ownBlock=some k->vf.ownBlock≠some k:=fun k q=>own_ne h.ext h.fns Zd q;have h7:OwnR w7 B 9 1 ve m.externs.length (stF m.externs):=⟨xs,hK.owns ho (fun k e q=>hne k e q),hf⟩;exact h7.keep (Yaj _) K2 (fun k q=>by have:k=mb:=q; omega)
 ·show OwnR _ B _ 3 vf' (m.funcs++[f]).length (fnX ve (m.funcs++[f]));rw[List.length_append,List.length_singleton];exact hO.keep (Yal _ _) K2 (fun k q=>by have:k=mb:=q; omega)
end
def Yex (B rb mb:Nat)(ao:Option Addr)(cap:Nat)(L:List Tk)(en:Nat)(w:World)(R:Rd Md)(e:Ending)(w':World):Prop:=
 Keep (fun k=>k=rb\/k=mb\/B<=k) w w'/\match R with
 |.ok m j=>e= .returned (.tuple #[])/\Yp B w' rb ao cap L en j/\∃ve vf,ModW B rb mb w' ve vf m
 |.bad a c=>e=misR a c
def extT (L:List Tk)(en n j:Nat)(acc:List ByteArray):Rd (List ByteArray):=if isN L j 6 YC=true then extN L en n (j+1) acc else .ok acc j
theorem ext_eq {L:List Tk}{en n i:Nat}{acc:List ByteArray}:extN L en (n+1) i acc=(Jn L en i).bind fun s j=>extT L en n j (acc++[s]):=rfl
theorem Yp.box {B rb mb:Nat}{ao:Option Addr}{cap:Nat}{L:List Tk}{en i:Nat}{w:World}{cs:Array Value}{t:TypeId}(h:Yp B w rb ao cap L en i)(hm:w.heap[mb]? =some (.cells cs t (0,0)))(hne:mb≠rb)(hcs:∀(o:Nat) (k:IntKind) (n:Int),cs[o]?≠some (Value.int k n))(o:Nat)(u:Value):Yp B (w.setCell ⟨mb,o,none⟩ u) rb ao cap L en i:=by
 have hK:=Keep.of_setCell w ⟨mb,o,none⟩ u;refine⟨(hK.block rb h.lt (fun q=>hne q.symm)).trans h.row,fun hn=>?_,h.le,h.few,h.small,h.low,by simpa[World.setCell] using h.size⟩;obtain⟨g,off,e,hl,hs,hc⟩:=h.toks hn;have hg:g≠mb:=by
  rintro rfl;have h0:=(hc 0 (List.length_pos_iff.2 hn)).1;rw[cell_of_row w g _ cs t (0,0) hm] at h0;exact hcs _ _ _ h0
 have hcell:∀o',(w.setCell ⟨mb,o,none⟩ u).cell? ⟨g,o',none⟩=w.cell? ⟨g,o',none⟩:=fun o'=>hK.cell (p:=⟨g,o',none⟩) (Nat.lt_of_lt_of_le hl h.size) hg;exact⟨g,off,e,hl,hs,fun k hk'=>⟨(hcell _).trans (hc k hk').1,(hcell _).trans (hc k hk').2.1,(hcell _).trans (hc k hk').2.2⟩⟩
theorem YqU (w:World)(a:Value)(t:TypeId):∀j u,[a][j]? =some u->(w.alloc (.cells #[a] t)).cell? ⟨w.heap.size,0+j,none⟩=some u:=by
 intro j u h;rw[cell_of_row _ w.heap.size (0+j) #[a] t (0,0) (heap_alloc_new w _),Nat.zero_add];simpa using h
structure ItE (B rb mb:Nat)(ao:Option Addr)(cap:Nat)(L:List Tk)(en:Nat)(R:Rd Md)(m:Md)(w wr:World)(ve:Value)(acc:List ByteArray)(j n:Nat):Prop where
 fuel:L.length - j<=n
 eq:R=(extT L en n j acc).bind fun l j=>(YG L en j Ja).bind fun _ k=>.ok ⟨l,m.funcs⟩ k
 rdr:Yp B wr rb ao cap L en j
 mod:∃vf,ModW B rb mb wr ve vf ⟨acc,m.funcs⟩
 keep:Keep (fun k=>k=rb\/k=mb\/B<=k) w wr
 cnt:acc.length<=50000+j
theorem Yo1 (B rb mb:Nat)(ao:Option Addr)(cap:Nat)(L:List Tk)(en i:Nat)(m:Md)(ve vf:Value)(w:World)(h0:Yp B w rb ao cap L en i)(hm:ModW B rb mb w ve vf m)(hc:isN L i 7 Yas=true)(hce:m.externs.length<=40000+i):
 Calls Tryz.prog 43 #[.pointer (some ⟨rb,0,none⟩),.pointer (some ⟨mb,0,none⟩)] w (Yex B rb mb ao cap L en w (JY L en i m)):=by
 have hil:=Jf hc;have hle:=h0.le;have hfew:=h0.few;have hI:=YcC B rb ao cap L en i 7 Yas w h0 Zd;rw[hc] at hI;have HEQ:Hid (JY L en i m=(Jn L en (i+1)).bind fun s j=>(extT L en L.length j (m.externs++[s])).bind fun l j=>(YG L en j Ja).bind fun _ k=>.ok ⟨l,m.funcs⟩ k):=Zh (by
  unfold JY; rw[hc,if_pos rfl,ext_eq,Rd.bind_assoc])
 generalize JY L en i m=R at HEQ⊢;have HCE:Hid (m.externs.length<=80000):=Zh Zo;have a0:(0:Int)<=(i:Int)+1:=Zo;clear hc;go_enter Tryz.func43,Tryz.ntmps43;go_wp2_with fail;refine hI.mono ?_;clear hI;rintro e w1 ⟨rfl,hk1⟩;have hr1:=h0.keep hk1 (fun _ q=>q.elim);have hm1:=hm.call (keep_any hk1);have c2:=hr1.c2;have f2:=hr1.f2;have hRx:Yp B (w1.setCell ⟨rb,2,none⟩ (.int .i64 ((i:Int)+1))) rb ao cap L en (i+1):=hr1.set (i+1) hil;have hMx:=hm1.call (Keep.of_setCell w1 ⟨rb,2,none⟩ (.int .i64 ((i:Int)+1)));have HKx:Hid (Keep (fun k=>k=rb\/k=mb\/B<=k) w (w1.setCell ⟨rb,2,none⟩ (.int .i64 ((i:Int)+1)))):=Zh ((hk1.mono (fun _ _ q=>q.elim)).trans (Keep.of_setCell w1 ⟨rb,2,none⟩ _) (fun _ _ q=>.inl q));have HRX:=Zh hRx;have HMX:=Zh hMx;clear hk1 hr1 hm1 hRx hMx;go_wp2_with fail;have hRx:=HRX.out;have hMx:=HMX.out;clear HRX HMX c2 f2;generalize w1.setCell ⟨rb,2,none⟩ (.int .i64 ((i:Int)+1))=w2 at hRx hMx HKx⊢;have hX:=name_any B rb ao cap L en (i+1) w2.drew (hRx.keep (Keep.of_drewN (S:=fun _=>False) w2 1) (fun _ q=>q.elim));have hge:∀s j,Jn L en (i+1)= .ok s j->j=(i+1)+1:=fun s j q=>YaD q;have HGE:=Zh hge;obtain⟨aoe,cape,rfl⟩:=hMx.ext.form;obtain⟨aof,capf,rfl⟩:=hMx.fns.form;have x0:=hMx.c0;have y0:=hMx.f 0;have hmbl:=hMx.lt;have hmd:ModW B rb mb w2.drew (.slice aoe m.externs.length cape) (.slice aof m.funcs.length capf) m:=hMx.new (Keep.of_drewN (S:=fun _=>False) w2 1) (fun k q=>q.elim);clear hge;generalize Jn L en (i+1)=N at hX HEQ HGE;cases N with
 |
  bad a c=>
  have HXB:=Zh hX;have HX2:Hid (R= .bad a c):=HEQ;clear hX hmd HEQ HGE;go_wp2_with fail;go_region_dies
  all_goals
   refine HXB.out.mono ?_;rintro e w6 ⟨hk6,rfl⟩;refine⟨rfl,?_⟩;rw[HX2.out];exact⟨(HKx.out.trans (Keep.of_drewN (S:=fun _=>False) w2 1) (fun _ _ q=>q.elim)).trans hk6 (fun _ _ q=>.inl q),rfl⟩
 |
  ok s j=>
  have hij:=HGE.out _ _ rfl;have hXo:Calls Tryz.prog 94 #[.pointer (some ⟨rb,0,none⟩)] w2.drew fun e w'=>e= .returned (.string s)/\Yp B w' rb ao cap L en j/\ModW B rb mb w' (.slice aoe m.externs.length cape) (.slice aof m.funcs.length capf) m/\Keep (fun k=>k=rb\/k=mb\/B<=k) w w':=hX.mono fun e w' ⟨h1,h2,h3⟩=>⟨h2,h3,hmd.call h1,(HKx.out.trans (Keep.of_drewN (S:=fun _=>False) w2 1) (fun _ _ q=>q.elim)).trans h1 (fun _ _ q=>.inl q)⟩;have HXO:=Zh hXo;clear hX hXo hmd HGE;go_wp2_with fail;go_region_law (first
   |(
     refine YbY Zr _ _ _ Zr B 9 1 16 YpE _ _ Zr HMA.out.ext (Yaj _) (Yaj [s]) (Ymr _ _) (some ⟨w6.heap.size,0,none⟩) 1 1 [.string s] Zr Zr Zr (fun _=>⟨_,0,rfl,HNW.out⟩) (by simp[Value.oneCell']) (by have:=HCE.out; omega) Zo (by have:=HRA.out.size; omega) ?_;intro v7 w7 hO7 hK7 hat7;obtain⟨ao7,cap7,rfl⟩:=hO7.form;have HM7:=Zh (HMA.out.pushE hK7 hO7 hat7);have hbe:∀k,(Value.slice aoe m.externs.length cape).ownBlock=some k->B<=k:=fun k q=>(HMA.out.ext.own_lt k q).1;have HR7:=Zh ((HRA.out.keep hK7 hbe).box ((hK7.block mb HMA.out.lt (fun q=>by have:=hbe mb q; have:=HMA.out.low; omega)).trans HMA.out.row) HMA.out.apart (by intro o k n; rcases o with _ | _ | o<;>simp) 0 (.slice ao7 (m.externs.length+1) cap7));have HK7:=Zh ((HKA.out.trans hK7 (fun _ _ q=>.inr (.inr (hbe _ q)))).trans (Keep.of_setCell w7 ⟨mb,0,none⟩ (.slice ao7 (m.externs.length+1) cap7)) (fun _ _ q=>.inr (.inl q)));have y7:w7.frozen? ⟨mb,0,none⟩=false:=(World.frozen?_of_block (hK7.block mb HMA.out.lt (fun q=>by have:=hbe mb q; have:=HMA.out.low; omega))).trans (HMA.out.f 0);have x7:w7.cell? ⟨mb,0,none⟩=some (.slice aoe m.externs.length cape):=(World.cell?_of_block (a:=⟨mb,0,none⟩) (hK7.block mb HMA.out.lt (fun q=>by have:=hbe mb q; have:=HMA.out.low; omega))).trans HMA.out.c0;clear hO7 hK7 hat7 hbe)
   |(
     go_simp
     go_at_call 94;refine HXO.out.mono ?_;rintro e w6 ⟨rfl,hr6,hm6,hk6⟩;have x0:=hm6.c0;have hmb6:=hm6.lt;have HMA:=Zh (hm6.new (Keep.of_alloc (S:=fun _=>False) w6 (.cells #[.string s] 9)) (fun k q=>q.elim));have HRA:=Zh (hr6.below (below_alloc1 w6 (.cells #[.string s] 9)));have HKA:=Zh (hk6.trans (Keep.of_alloc (S:=fun _=>False) w6 (.cells #[.string s] 9)) (fun _ _ q=>q.elim));have HNW:=Zh (YqU w6 (.string s) 9);clear hr6 hm6 hk6))
  all_goals
   have HEQ2:Hid (R=(extT L en (L.length) j (m.externs++[s])).bind fun l j=>(YG L en j Ja).bind fun _ k=>.ok ⟨l,m.funcs⟩ k):=HEQ;clear HEQ HXO HMA HRA HKA HNW x0 y0 x7 y7;go_wp2_with fail;have hM7:=HM7.out;have hR7:=HR7.out;have hK7:=HK7.out;clear HM7 HR7 HK7;generalize w7.setCell ⟨mb,0,none⟩ (.slice ao7 (m.externs.length+1) cap7)=W7 at hM7 hR7 hK7⊢;go_loopw [] (fun wr=>∃ve acc j n,ItE B rb mb ao cap L en R m w wr ve acc j n) (fun wr=>L.length - rdI rb wr)
   case atStart=>exact⟨_,_,j,L.length,by have:=hR7.le; omega,HEQ2.out,hR7,⟨_,hM7⟩,hK7,by rw[List.length_append,List.length_singleton]; have:=HCE.out; omega⟩
   case round=>
    obtain⟨ve,acc,j2,n,hS⟩:=hrel;clear hM7 hR7 hK7 HEQ2;have heq:=hS.eq;unfold extT at heq;cases hc:isN L j2 6 YC with
    |
     true=>
     rw[hc,if_pos rfl] at heq;have hN:=Yci B rb ao cap L en j2 YC wr hS.rdr hc;have hjl:=Jf hc;obtain⟨n,rfl⟩:∃q,n=q+1:=⟨n - 1,by have:=hS.fuel; omega⟩;rw[ext_eq,Rd.bind_assoc] at heq;have HEQ:=Zh heq;clear heq hc;go_wp2_with fail;refine hN.mono ?_;clear hN;rintro e w2 ⟨rfl,hRx,hk2⟩;obtain⟨vf2,hm0⟩:=hS.mod;have hMx:ModW B rb mb w2 ve vf2 ⟨acc,m.funcs⟩:=hm0.call hk2;have HKx:=Zh (hS.keep.trans hk2 (fun _ _ q=>.inl q));have HCE:Hid (acc.length<=90000):=Zh (by have:=hS.cnt; have:=hS.rdr.le; omega);obtain⟨m1,hm1⟩:∃m1:Md,m1=⟨acc,m.funcs⟩:=⟨_,rfl⟩;rw[<-hm1] at hMx;have he1:m1.externs=acc:=by rw[hm1]
     rw[<-he1] at HCE;have HM1:=Zh hm1;clear hk2 hm1 he1;go_wp2_with fail;have hX:=name_any B rb ao cap L en (j2+1) w2.drew (hRx.keep (Keep.of_drewN (S:=fun _=>False) w2 1) (fun _ q=>q.elim));have hge:∀s j,Jn L en (j2+1)= .ok s j->j=(j2+1)+1:=fun s j q=>YaD q;have HGE:=Zh hge;obtain⟨aoe,cape,rfl⟩:=hMx.ext.form;obtain⟨aof,capf,rfl⟩:=hMx.fns.form;have x0:=hMx.c0;have y0:=hMx.f 0;have hmbl:=hMx.lt;have hmd:ModW B rb mb w2.drew (.slice aoe m1.externs.length cape) (.slice aof m1.funcs.length capf) m1:=hMx.new (Keep.of_drewN (S:=fun _=>False) w2 1) (fun k q=>q.elim);clear hge;generalize Jn L en (j2+1)=N at hX HEQ HGE;cases N with
     |
      bad a c=>
      have HXB:=Zh hX;have HX2:Hid (R= .bad a c):=HEQ;clear hX hmd HEQ HGE;go_wp2_with fail;go_region_dies
      all_goals
       refine HXB.out.mono ?_;rintro e w6 ⟨hk6,rfl⟩;refine⟨rfl,?_⟩;rw[HX2.out];exact⟨(HKx.out.trans (Keep.of_drewN (S:=fun _=>False) w2 1) (fun _ _ q=>q.elim)).trans hk6 (fun _ _ q=>.inl q),rfl⟩
     |
      ok s j=>
      have hij:=HGE.out _ _ rfl;have hXo:Calls Tryz.prog 94 #[.pointer (some ⟨rb,0,none⟩)] w2.drew fun e w'=>e= .returned (.string s)/\Yp B w' rb ao cap L en j/\ModW B rb mb w' (.slice aoe m1.externs.length cape) (.slice aof m1.funcs.length capf) m1/\Keep (fun k=>k=rb\/k=mb\/B<=k) w w':=hX.mono fun e w' ⟨h1,h2,h3⟩=>⟨h2,h3,hmd.call h1,(HKx.out.trans (Keep.of_drewN (S:=fun _=>False) w2 1) (fun _ _ q=>q.elim)).trans h1 (fun _ _ q=>.inl q)⟩;have HXO:=Zh hXo;clear hX hXo hmd HGE;go_wp2_with fail;go_region_law (first
       |(
         refine YbY Zr _ _ _ Zr B 9 1 16 YpE _ _ Zr HMA.out.ext (Yaj _) (Yaj [s]) (Ymr _ _) (some ⟨w6.heap.size,0,none⟩) 1 1 [.string s] Zr Zr Zr (fun _=>⟨_,0,rfl,HNW.out⟩) (by simp[Value.oneCell']) (by have:=HCE.out; omega) Zo (by have:=HRA.out.size; omega) ?_;intro v7 w7 hO7 hK7 hat7;obtain⟨ao7,cap7,rfl⟩:=hO7.form;have HM7:=Zh (HMA.out.pushE hK7 hO7 hat7);have hbe:∀k,(Value.slice aoe m1.externs.length cape).ownBlock=some k->B<=k:=fun k q=>(HMA.out.ext.own_lt k q).1;have HR7:=Zh ((HRA.out.keep hK7 hbe).box ((hK7.block mb HMA.out.lt (fun q=>by have:=hbe mb q; have:=HMA.out.low; omega)).trans HMA.out.row) HMA.out.apart (by intro o k n; rcases o with _ | _ | o<;>simp) 0 (.slice ao7 (m1.externs.length+1) cap7));have HK7:=Zh ((HKA.out.trans hK7 (fun _ _ q=>.inr (.inr (hbe _ q)))).trans (Keep.of_setCell w7 ⟨mb,0,none⟩ (.slice ao7 (m1.externs.length+1) cap7)) (fun _ _ q=>.inr (.inl q)));have y7:w7.frozen? ⟨mb,0,none⟩=false:=(World.frozen?_of_block (hK7.block mb HMA.out.lt (fun q=>by have:=hbe mb q; have:=HMA.out.low; omega))).trans (HMA.out.f 0);have x7:w7.cell? ⟨mb,0,none⟩=some (.slice aoe m1.externs.length cape):=(World.cell?_of_block (a:=⟨mb,0,none⟩) (hK7.block mb HMA.out.lt (fun q=>by have:=hbe mb q; have:=HMA.out.low; omega))).trans HMA.out.c0;clear hO7 hK7 hat7 hbe)
       |(
         go_simp
         go_at_call 94;refine HXO.out.mono ?_;rintro e w6 ⟨rfl,hr6,hm6,hk6⟩;have x0:=hm6.c0;have hmb6:=hm6.lt;have HMA:=Zh (hm6.new (Keep.of_alloc (S:=fun _=>False) w6 (.cells #[.string s] 9)) (fun k q=>q.elim));have HRA:=Zh (hr6.below (below_alloc1 w6 (.cells #[.string s] 9)));have HKA:=Zh (hk6.trans (Keep.of_alloc (S:=fun _=>False) w6 (.cells #[.string s] 9)) (fun _ _ q=>q.elim));have HNW:=Zh (YqU w6 (.string s) 9);clear hr6 hm6 hk6))
      all_goals
       have HEQ2:Hid (R=(extT L en n j (acc++[s])).bind fun l j=>(YG L en j Ja).bind fun _ k=>.ok ⟨l,m.funcs⟩ k):=HEQ;clear HEQ HXO HMA HRA HKA HNW x0 y0 x7 y7;go_wp2_with fail;have hM7:=HM7.out;have hR7:=HR7.out;have hK7:=HK7.out;clear HM7 HR7 HK7;rw[HM1.out] at hM7 hR7 hK7⊢;go_roundw
       case rel=>exact⟨_,_,j,n,by have:=hS.fuel; omega,HEQ2.out,hR7,⟨_,hM7⟩,hK7,by rw[List.length_append,List.length_singleton]; have:=hS.cnt; omega⟩
       case measure=>
        have e1:=hR7.rdI;have e2:=hS.rdr.rdI;rw[e1,e2];omega
    |
     false=>
     rw[hc,if_neg Bool.false_ne_true] at heq;have HEQ3:Hid (R=(YG L en j2 Ja).bind fun _ k=>.ok ⟨acc,m.funcs⟩ k):=Zh heq;have hN:=YdB B rb ao cap L en j2 YC wr hS.rdr hc;clear heq hc;go_wp2_with fail;refine hN.mono ?_;clear hN;rintro e w2 ⟨rfl,hk2⟩;have hMu:=Ybv B rb ao cap L en j2 Ja w2 (hS.rdr.keep hk2 (fun _ q=>q.elim));obtain⟨vf2,hm0⟩:=hS.mod;have hM2:=hm0.call (keep_any hk2);have hK2:=hS.keep.trans hk2 (fun _ _ q=>q.elim);clear hk2;generalize YG L en j2 Ja=M at hMu HEQ3;go_wp2_with fail;refine hMu.mono ?_;clear hMu;intro e w3 hP;cases M with
     |
      bad a c=>
      obtain⟨hK,rfl⟩:=hP;refine⟨rfl,?_⟩;rw[HEQ3.out];exact⟨hK2.trans hK (fun _ _ q=>.inl q),rfl⟩
     |
      ok u k=>
      obtain⟨hK,rfl,hr3⟩:=hP;have HF:=Zh (show Yex B rb mb ao cap L en w R (.returned (.tuple #[])) w3 by
       rw[HEQ3.out];exact⟨hK2.trans hK (fun _ _ q=>.inl q),rfl,hr3,_,_,hM2.call hK⟩)
      clear hK hr3 hK2 hM2;go_wp2_with fail;first | go_end0 | refine bodyPost_ret (results_none rfl _ _ _) rfl ?_
      exact HF.out
end Go.Proofs.YteamjdmhdfjopaaGreatDoor
