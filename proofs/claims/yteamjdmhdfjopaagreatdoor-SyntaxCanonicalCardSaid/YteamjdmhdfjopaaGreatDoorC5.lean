/- A part of the proof; it holds the texts Tch Rdr Dep Rfu Inn Trms Wra (names and blanks shortened). -/
import Derived.Test.YteamjdmhdfjopaaGreatDoorProg
import Derived.Test.YteamjdmhdfjopaaGreatDoorC4
import Derived.Test.YteamjdmhdfjopaaGreatDoorC1
import Derived.Deep.QuietTactic
import Derived.BigQuiet
namespace Go.Proofs.YteamjdmhdfjopaaGreatDoor
open Go.RowKit
set_option maxRecDepth 100000
set_option maxHeartbeats 8000000
set_option linter.unusedVariables false
set_option linter.unusedSimpArgs false
theorem YbT:SlTy Tryz.prog 35 223 3 48:=YdA (z:=.agg #[.int .i64 0,.string ⟨#[]⟩,.slice none 0 0]) Tryz.underlying35 (by kernel_rfl) rfl Zd
def oneT (k:Int)(t:ByteArray)(kids:Ts):Ts:=.cons k t kids .nil
theorem Ygt (s:ByteArray):∀n i:Nat,Yt s (n+1) i=(Yt s n i).app (oneT 1 (s.extract (i+n) (i+n+1)) .nil)
 |0,i=>by simp[Yt,Ts.app,oneT]
 |
  n+1,i=>by
  rw[Yt,Ygt s n (i+1)];show _=(Ts.cons 1 (s.extract i (i+1)) .nil (Yt s n (i+1))).app _;rw[Ts.app,show i+1+n=i+(n+1) by omega]
theorem Yfu (s:ByteArray):∀n i:Nat,(Yt s n i).len=n
 |0,_=>rfl
 |n+1,i=>by rw[Yt,Ts.len,Yfu s n]
theorem Yg7 (w:World)(a b c:Value)(t:TypeId):∀j u,[a,b,c][j]? =some u->(w.alloc (.cells #[a,b,c] t)).cell? ⟨w.heap.size,0+j,none⟩=some u:=by
 intro j u h;rw[cell_of_row _ w.heap.size (0+j) #[a,b,c] t (0,0) (heap_alloc_new w _),Nat.zero_add];simpa using h
theorem Yof (s:ByteArray)(w:World)(hs:s.size<=40000):
 Calls Tryz.prog 189 #[.string s] w fun e w'=>∃v,e= .returned v/\TsV w' (fun k=>w.heap.size<=k) v (YbK s)/\Below w.heap.size w w':=by
 go_enter Tryz.func189,Tryz.ntmps189;go_wp2;go_loopw [3,7] (fun v i wr=>∃k:Nat,k<=s.size/\i= .int .i64 k/\Hid (OwnR wr w.heap.size 223 3 v (Yt s k 0).len (tsF (Yt s k 0)))/\Hid (Below w.heap.size w wr)) (fun _ i _=>s.size - (intOf i).toNat)
 case atStart=>exact⟨0,Nat.zero_le _,rfl,Zh (OwnR.nil (fun _=>rfl)),Zh (Below.refl _ _)⟩
 case round=>
  obtain⟨k,hk,rfl,HO,HB⟩:=hrel;by_cases hlt:k<s.size
  ·have l0:decide (k<s.size)=true:=decide_eq_true hlt;have a0:(0:Int)<=(k:Int)+1:=Zo;have a1:(k:Int)+1<=s.size:=Zo;have a2:(0:Int)<=k:=Zo;have a3:((k:Int)+1).toNat=k+1:=Zo;have hz:(Yt s k 0).len=k:=Yfu _ _ _;have HZ:=Zh hz;clear hz;go_wp2_with (at_builtin; refine Jg rfl _ _ 35 rfl w.heap.size 223 3 48 YbT _ _ rfl (HO.out.below (Yi _) (below_alloc1 wr _)) (Yi _) (Yi (oneT 1 (s.extract k (k+1)) .nil)) (YbQ _ _) (some ⟨wr.heap.size,0,none⟩) 1 1 [.int .i64 1,.string (s.extract k (k+1)),.slice none 0 0] rfl (Ts.flat_single _ _ (TsV.nil _ _)) rfl (fun _=>⟨_,0,rfl,Yg7 _ _ _ _ _⟩) (by simp[Value.oneCell']) (by rw[HZ.out]; omega) Zo (by have:=HB.out.size; simp; omega) ?_; intro v1 w1 hO1 hK1 hat1; have HO1:Hid (OwnR w1 w.heap.size 223 3 v1 (Yt s (k+1) 0).len (tsF (Yt s (k+1) 0))):=Zh (by rw[Ygt,Ts.len_app,Nat.zero_add]; exact hO1); have HB1:Hid (Below w.heap.size w w1):=Zh ((HB.out.alloc HB.out.size _).trans (hK1.below (by have:=HB.out.size; simp; omega) (fun i hi q=>by have:=(HO.out.own_lt _ q).1; omega))); clear hO1 hK1 hat1);go_roundw
   case rel=>exact⟨k+1,by omega,by go_num,HO1,HB1⟩
   case measure=>simp[intOf]; omega
  ·have l0:decide (k<s.size)=false:=Zf;obtain rfl:k=s.size:=Zo;go_wp2;go_ret;exact⟨_,rfl,HO.out.tsV,HB.out⟩
def TkRow (B rb:Nat)(ao:Option Addr)(L:List Tk)(w:World):Prop:=
 L≠[]->∃g off,ao=some ⟨g,off,none⟩/\g<B/\g≠rb/\∀(k:Nat) (h:k<L.length),w.cell? ⟨g,off+k*3,none⟩=some (.int .i64 L[k].kind)/\w.cell? ⟨g,off+k*3+1,none⟩=some (.string L[k].text)/\w.cell? ⟨g,off+k*3+2,none⟩=some (.int .i64 L[k].at_)
structure Yp (B:Nat)(w:World)(rb:Nat)(ao:Option Addr)(cap:Nat)(L:List Tk)(en i:Nat):Prop where
 row:w.heap[rb]? =some (.cells #[.slice ao L.length cap,.int .i64 en,.int .i64 i] 157 (0,0))
 toks:TkRow B rb ao L w
 le:i<=L.length
 few:L.length<=40000
 small:∀x∈L,x.text.size<=40000
 low:rb<B
 size:B<=w.heap.size
section
variable {B:Nat}{w w':World}{rb:Nat}{ao:Option Addr}{cap:Nat}{L:List Tk}{en i:Nat}
theorem Yp.c0 (h:Yp B w rb ao cap L en i):w.cell? ⟨rb,0,none⟩=some (.slice ao L.length cap):=by simp[World.cell?,h.row]
theorem Yp.c1 (h:Yp B w rb ao cap L en i):w.cell? ⟨rb,1,none⟩=some (.int .i64 en):=by simp[World.cell?,h.row]
theorem Yp.c2 (h:Yp B w rb ao cap L en i):w.cell? ⟨rb,2,none⟩=some (.int .i64 i):=by simp[World.cell?,h.row]
theorem Yp.f2 (h:Yp B w rb ao cap L en i):w.frozen? ⟨rb,2,none⟩=false:=by simp[World.frozen?,h.row]
theorem Yp.lt (h:Yp B w rb ao cap L en i):rb<w.heap.size:=(Zg h.row).1
theorem Yp.keep {S:Nat->Prop}(h:Yp B w rb ao cap L en i)(hk:Keep S w w')(hS:∀k,S k->B<=k):Yp B w' rb ao cap L en i:=
 ⟨(
  hk.block rb h.lt (fun q=>by have:=hS _ q; have:=h.low; omega)).trans h.row,fun hn=>by
  obtain⟨g,off,e,hl,hs,hc⟩:=h.toks hn;have hcell:∀o,w'.cell? ⟨g,o,none⟩=w.cell? ⟨g,o,none⟩:=fun o=>hk.cell (p:=⟨g,o,none⟩) (Nat.lt_of_lt_of_le hl h.size) (fun q=>by have:B<=g:=hS g q; omega);exact⟨g,off,e,hl,hs,fun k hk'=>⟨(hcell _).trans (hc k hk').1,(hcell _).trans (hc k hk').2.1,(hcell _).trans (hc k hk').2.2⟩⟩,h.le,h.few,h.small,h.low,Nat.le_trans h.size hk.size⟩
theorem Yp.below (h:Yp B w rb ao cap L en i)(hb:Below w.heap.size w w'):Yp B w' rb ao cap L en i:=h.keep (Keep.of_below (S:=fun _=>False) hb) (fun _ q=>q.elim)
theorem Yp.set (h:Yp B w rb ao cap L en i)(j:Nat)(hj:j<=L.length):Yp B (w.setCell ⟨rb,2,none⟩ (.int .i64 j)) rb ao cap L en j:=
 ⟨by have:=heap_setCell_same w rb 2 _ _ (.int .i64 j) h.row; simpa using this,fun hn=>by
  obtain⟨g,off,e,hl,hs,hc⟩:=h.toks hn;have hcell:∀o,(w.setCell ⟨rb,2,none⟩ (.int .i64 j)).cell? ⟨g,o,none⟩=w.cell? ⟨g,o,none⟩:=fun o=>(Keep.of_setCell w ⟨rb,2,none⟩ _).cell (p:=⟨g,o,none⟩) (Nat.lt_of_lt_of_le hl h.size) hs;exact⟨g,off,e,hl,hs,fun k hk'=>⟨(hcell _).trans (hc k hk').1,(hcell _).trans (hc k hk').2.1,(hcell _).trans (hc k hk').2.2⟩⟩,hj,h.few,h.small,h.low,by simpa[World.setCell] using h.size⟩
theorem Yp.tok (h:Yp B w rb ao cap L en i)(hi:i<L.length):∃g off,ao=some ⟨g,off,none⟩/\g<w.heap.size/\g≠rb/\w.cell? ⟨g,off+i*3,none⟩=some (.int .i64 L[i].kind)/\w.cell? ⟨g,off+i*3+1,none⟩=some (.string L[i].text)/\w.cell? ⟨g,off+i*3+2,none⟩=some (.int .i64 L[i].at_):=by
 obtain⟨g,off,e,hl,hs,hc⟩:=h.toks (fun q=>by rw[q] at hi; cases hi);exact⟨g,off,e,Nat.lt_of_lt_of_le hl h.size,hs,hc i hi⟩
end
theorem retI {k:IntKind}{a b:Int}(h:a=b):Ending.returned (.int k a)= .returned (.int k b):=by rw[h]
theorem retB {a b:Bool}(h:a=b):Ending.returned (.bool a)= .returned (.bool b):=by rw[h]
theorem Yqd (a b:Nat):((a:Int)==(b:Int))=decide (a=b):=by
 by_cases h:a=b
 ·subst h; simp
 ·have h1:¬(a:Int)=(b:Int):=by omega
  simp[h,h1]
theorem Ydm (B rb:Nat)(ao:Option Addr)(cap:Nat)(L:List Tk)(en i:Nat)(w:World)(h:Yp B w rb ao cap L en i):
 Calls Tryz.prog 42 #[.pointer (some ⟨rb,0,none⟩)] w fun e w'=>e= .returned (.bool (decide (i=L.length)))/\Keep (fun _=>False) w w'/\w'.heap.size=w.heap.size:=by
 have c0:=h.c0;have c2:=h.c2;have hle:=h.le;have hfew:=h.few;clear h;go_enter Tryz.func42,Tryz.ntmps42;go_wp2;go_quiet (fail)
 go_wp2;go_ret;exact⟨retB (Yqd _ _),Keep.of_drewN _ _,rfl⟩
theorem keep_any {S:Nat->Prop}{w w':World}(h:Keep (fun _=>False) w w'):Keep S w w':=h.mono (fun _ _ q=>q.elim)
theorem Yhh (B rb:Nat)(ao:Option Addr)(cap:Nat)(L:List Tk)(en i:Nat)(w:World)(h:Yp B w rb ao cap L en i):
 Calls Tryz.prog 103 #[.pointer (some ⟨rb,0,none⟩)] w fun e w'=>e= .returned (.int .i64 (Yby L en i))/\Keep (fun _=>False) w w'/\w'.heap.size=w.heap.size:=by
 have hD:=Ydm B rb ao cap L en i w h;by_cases hi:i<L.length
 ·rw[Zf] at hD;obtain⟨g,off,rfl,hg,hne,t0,t1,t2⟩:=h.tok hi;have HN:Hid (Yby L en i=L[i].at_):=Zh (by unfold Yby; rw[List.getElem?_eq_getElem hi]);generalize L[i]=x at t0 t1 t2 HN;go_enter Tryz.func103,Tryz.ntmps103;go_wp2_with fail;refine hD.mono ?_;rintro e w1 ⟨rfl,hk,hz⟩;have h1:=h.keep hk (fun _ q=>q.elim);have c0:=h1.c0;have c2:=h1.c2;have s2:=(hk.cell (p:=⟨g,off+i*3+2,none⟩) hg (fun q=>q)).trans t2;have hi2:decide (i<L.length)=true:=decide_eq_true hi;clear hD t0 t1 t2;go_wp2_with fail;go_quiet (fail)
  go_wp2;go_ret;exact⟨retI (by rw[HN.out]),hk.trans (Keep.of_drewN (S:=fun _=>False) _ _) (fun _ _ q=>q),hz⟩
 ·rw[decide_eq_true (by have:=h.le; omega)] at hD;have HN:Hid (Yby L en i=en):=Zh (by unfold Yby; rw[List.getElem?_eq_none Zo]);go_enter Tryz.func103,Tryz.ntmps103;go_wp2_with fail;refine hD.mono ?_;rintro e w1 ⟨rfl,hk,hz⟩;have h1:=h.keep hk (fun _ q=>q.elim);have c1:=h1.c1;clear hD;go_wp2_with fail;go_ret;exact⟨retI (by rw[HN.out]),hk,hz⟩
def misR (a:Nat)(c:Int):Ending:=.panicked [{ v:=.iface 168 (.agg #[.int .i64 a,.int .i64 c]),recovered:=false }]
def YdU (L:List Tk)(i:Nat)(code:Int):Int:=if i<L.length\/code=5 then code else 51
theorem Yae (B rb:Nat)(ao:Option Addr)(cap:Nat)(L:List Tk)(en i:Nat)(code:Int)(w:World)(h:Yp B w rb ao cap L en i):
 Calls Tryz.prog 55 #[.pointer (some ⟨rb,0,none⟩),.int .i64 code] w fun e w'=>e=misR (Yby L en i) (YdU L i code)/\Keep (fun _=>False) w w':=by
 have hD:=Ydm B rb ao cap L en i w h;unfold YdU misR;have hle:=h.le;by_cases hi:i<L.length
 ·rw[Zf] at hD;rw[if_pos (.inl hi)];generalize hq:Yby L en i=q;go_enter Tryz.func55,Tryz.ntmps55;go_wp2_with fail;refine hD.mono ?_;rintro e w1 ⟨rfl,hk,hz⟩;have hH:=Yhh B rb ao cap L en i w1 (h.keep hk (fun _ q=>q.elim));rw[hq] at hH;clear hD;go_wp2_with fail;refine hH.mono ?_;rintro e w2 ⟨rfl,hk2,hz2⟩;go_wp2_with fail;exact⟨rfl,rfl,hk.trans hk2 (fun _ _ q=>q)⟩
 ·rw[Zt] at hD;generalize hq:Yby L en i=q;by_cases h5:code=5
  ·subst h5;rw[if_pos (.inr rfl)];go_enter Tryz.func55,Tryz.ntmps55;go_wp2_with fail;refine hD.mono ?_;rintro e w1 ⟨rfl,hk,hz⟩;have hH:=Yhh B rb ao cap L en i w1 (h.keep hk (fun _ q=>q.elim));rw[hq] at hH;clear hD;go_wp2_with fail;refine hH.mono ?_;rintro e w2 ⟨rfl,hk2,hz2⟩;go_wp2_with fail;exact⟨rfl,rfl,hk.trans hk2 (fun _ _ q=>q)⟩
  ·rw[if_neg Zo];have n5:(code==5)=false:=by simpa using h5
   have m5:(code != 5)=true:=by simpa using h5
   clear h5;go_enter Tryz.func55,Tryz.ntmps55;go_wp2_with fail;refine hD.mono ?_;rintro e w1 ⟨rfl,hk,hz⟩;have hH:=Yhh B rb ao cap L en i w1 (h.keep hk (fun _ q=>q.elim));rw[hq] at hH;clear hD;go_wp2_with fail;refine hH.mono ?_;rintro e w2 ⟨rfl,hk2,hz2⟩;go_wp2_with fail;exact⟨rfl,rfl,hk.trans hk2 (fun _ _ q=>q)⟩
def tkAt (L:List Tk)(i:Nat):Tk:=(L[i]?).getD ⟨0,⟨#[]⟩,0⟩
theorem YgT {L:List Tk}{i:Nat}(h:i<L.length):tkAt L i=L[i]:=by unfold tkAt; rw[List.getElem?_eq_getElem h]; rfl
theorem YgS {L:List Tk}{i:Nat}(h:¬i<L.length):tkAt L i=⟨0,⟨#[]⟩,0⟩:=by unfold tkAt; rw[List.getElem?_eq_none Zo]; rfl
theorem Yq0 {L:List Tk}{i:Nat}{kind:Int}{text:ByteArray}(h:kind≠0):isN L i kind text=((tkAt L i).kind==kind&&decide ((tkAt L i).text=text)):=by
 unfold isN tkAt;cases L[i]? with
 |
  none=>
  have:((0:Int)==kind)=false:=by simpa using fun q:(0:Int)=kind=>h q.symm
  show false=(((0:Int)==kind)&&_);rw[this]; rfl
 |some t=>rfl
theorem Yma {x y z:Value}:(Tryz.prog.info? 136).map (·.size)=some (#[x,y,z]:Array Value).size:=by
 show _=some 3;kernel_rfl
theorem Yb2 {t:TypeId}(w:World)(g:Nat)(a b c a' b' c':Value)(h:w.heap[g]? =some (.cells #[a,b,c] t (0,0))):
 (((w.setCell ⟨g,0,none⟩ a').setCell ⟨g,1,none⟩ b').setCell ⟨g,2,none⟩ c').heap[g]? =some (.cells #[a',b',c'] t (0,0)):=by
 have h1:=heap_setCell_same w g 0 _ _ a' h;have h2:=heap_setCell_same _ g 1 _ _ b' h1;have h3:=heap_setCell_same _ g 2 _ _ c' h2;rw[h3]; simp
theorem Yb1 (w:World)(g:Nat)(a b c:Value):
 Keep (fun k=>k=g) w (((w.setCell ⟨g,0,none⟩ a).setCell ⟨g,1,none⟩ b).setCell ⟨g,2,none⟩ c):=
 ((Keep.of_setCell w ⟨g,0,none⟩ a).trans (Keep.of_setCell _ ⟨g,1,none⟩ b) (fun _ _ e=>e)).trans (Keep.of_setCell _ ⟨g,2,none⟩ c) (fun _ _ e=>e)
theorem Keep.new {S T:Nat->Prop}{a b c:World}(h:Keep S a b)(k:Keep T b c)(hT:∀i,T i->a.heap.size<=i):Keep S a c:=h.trans k (fun i hi q=>by have:=hT i q; omega)
theorem Keep.drew {S:Nat->Prop}{a b:World}(h:Keep S a b):Keep S a b.drew:=h.trans (Keep.of_drewN (S:=fun _=>False) b 1) (fun _ _ q=>q.elim)
def Ymb (x:Tk):Value:=.agg #[.int .i64 x.kind,.string x.text,.int .i64 x.at_]
theorem Yg6 (B rb:Nat)(ao:Option Addr)(cap:Nat)(L:List Tk)(en i:Nat)(w:World)(h:Yp B w rb ao cap L en i):
 Calls Tryz.prog 133 #[.pointer (some ⟨rb,0,none⟩)] w fun e w'=>e= .returned (Ymb (tkAt L i))/\Keep (fun _=>False) w w':=by
 unfold Ymb;by_cases hi:i<L.length
 ·rw[YgT hi];obtain⟨g,off,rfl,hg,hne,t0,t1,t2⟩:=h.tok hi;generalize L[i]=x at t0 t1 t2;have h0:=h.keep (Keep.of_alloc (S:=fun _=>False) w (.cells #[.int .i64 0,.string ⟨#[]⟩,.int .i64 0] 136)) (fun _ q=>q.elim);have hD:=Ydm B rb _ cap L en i _ h0;rw[Zf] at hD;have hn:=heap_alloc_new w (.cells #[.int .i64 0,.string ⟨#[]⟩,.int .i64 0] 136);have hgz:w.heap.size<(w.alloc (.cells #[.int .i64 0,.string ⟨#[]⟩,.int .i64 0] 136)).heap.size:=Zs;have hb:=below_alloc1 w (.cells #[.int .i64 0,.string ⟨#[]⟩,.int .i64 0] 136);go_enter Tryz.func133,Tryz.ntmps133;go_wp2_with fail;refine hD.mono ?_;rintro e w1 ⟨rfl,hk,hz⟩;have h1:=h0.keep hk (fun _ q=>q.elim);have c0:=h1.c0;have c2:=h1.c2;have hgo:∀o,w1.cell? ⟨g,o,none⟩=w.cell? ⟨g,o,none⟩:=fun o=>(hk.cell (p:=⟨g,o,none⟩) (Nat.lt_trans hg hgz) (fun q=>q)).trans (hb.cell (p:=⟨g,o,none⟩) hg);have s0:=(hgo _).trans t0;have s1:=(hgo _).trans t1;have s2:=(hgo _).trans t2;have n1:=(hk.block w.heap.size hgz (fun q=>q)).trans hn;have m0:w1.cell? ⟨w.heap.size,0,none⟩=some (.int .i64 0):=by simp[World.cell?,n1]
  have m1:w1.cell? ⟨w.heap.size,1,none⟩=some (.string ⟨#[]⟩):=by simp[World.cell?,n1]
  have m2:w1.cell? ⟨w.heap.size,2,none⟩=some (.int .i64 0):=by simp[World.cell?,n1]
  have f0:w1.frozen? ⟨w.heap.size,0,none⟩=false:=by simp[World.frozen?,n1]
  have f1:w1.frozen? ⟨w.heap.size,1,none⟩=false:=by simp[World.frozen?,n1]
  have f2:w1.frozen? ⟨w.heap.size,2,none⟩=false:=by simp[World.frozen?,n1]
  have hK:Keep (fun _=>False) w w1:=(Keep.of_below (S:=fun _=>False) hb).trans hk (fun _ _ q=>q);have hi2:decide (i<L.length)=true:=decide_eq_true hi;clear hD t0 t1 t2 hgo hn hb h0 hk hgz hz;go_wp2_with fail;go_region
  all_goals go_wp2
  all_goals
   refine bodyPost_ret (v:=.agg #[.int .i64 x.kind,.string x.text,.int .i64 x.at_]) ?_ rfl ⟨rfl,?_⟩
   ·exact results_cell_row rfl _ _ w.heap.size 136 _ (0,0) _ rfl (Yb2 w1 w.heap.size _ _ _ _ _ _ n1) Tryz.underlying136 rfl Yma
   ·exact(hK.new (Yb1 w1 w.heap.size _ _ _) (fun i e=>by omega)).drew
 ·rw[YgS hi];have h0:=h.keep (Keep.of_alloc (S:=fun _=>False) w (.cells #[.int .i64 0,.string ⟨#[]⟩,.int .i64 0] 136)) (fun _ q=>q.elim);have hD:=Ydm B rb _ cap L en i _ h0;rw[decide_eq_true (by have:=h.le; omega)] at hD;have hn:=heap_alloc_new w (.cells #[.int .i64 0,.string ⟨#[]⟩,.int .i64 0] 136);have hgz:w.heap.size<(w.alloc (.cells #[.int .i64 0,.string ⟨#[]⟩,.int .i64 0] 136)).heap.size:=Zs;have hb:=below_alloc1 w (.cells #[.int .i64 0,.string ⟨#[]⟩,.int .i64 0] 136);go_enter Tryz.func133,Tryz.ntmps133;go_wp2_with fail;refine hD.mono ?_;rintro e w1 ⟨rfl,hk,hz⟩;have n1:=(hk.block w.heap.size hgz (fun q=>q)).trans hn;have m0:w1.cell? ⟨w.heap.size,0,none⟩=some (.int .i64 0):=by simp[World.cell?,n1]
  have m1:w1.cell? ⟨w.heap.size,1,none⟩=some (.string ⟨#[]⟩):=by simp[World.cell?,n1]
  have m2:w1.cell? ⟨w.heap.size,2,none⟩=some (.int .i64 0):=by simp[World.cell?,n1]
  have f0:w1.frozen? ⟨w.heap.size,0,none⟩=false:=by simp[World.frozen?,n1]
  have f1:w1.frozen? ⟨w.heap.size,1,none⟩=false:=by simp[World.frozen?,n1]
  have f2:w1.frozen? ⟨w.heap.size,2,none⟩=false:=by simp[World.frozen?,n1]
  have hK:Keep (fun _=>False) w w1:=(Keep.of_below (S:=fun _=>False) hb).trans hk (fun _ _ q=>q);clear hD hn hb h0 hk hgz hz;go_wp2_with fail;refine bodyPost_ret (v:=.agg #[.int .i64 0,.string ⟨#[]⟩,.int .i64 0]) ?_ rfl ⟨rfl,?_⟩
  ·exact results_cell_row rfl _ _ w.heap.size 136 _ (0,0) _ rfl (Yb2 w1 w.heap.size _ _ _ _ _ _ n1) Tryz.underlying136 rfl Yma
  ·exact hK.new (Yb1 w1 w.heap.size _ _ _) (fun i e=>by omega)
theorem Yha (a b:ByteArray):(a.toList==b.toList)=decide (a=b):=by
 by_cases h:a=b
 ·subst h; simp
 ·have h1:¬a.toList=b.toList:=fun q=>h (by
   rw[Lib.toList_data,Lib.toList_data] at q;obtain⟨⟨x⟩⟩:=a;obtain⟨⟨y⟩⟩:=b;simpa using q)
  simp[h,h1]
theorem Jf {L:List Tk}{i:Nat}{kind:Int}{text:ByteArray}(h:isN L i kind text=true):i<L.length:=by
 refine Nat.lt_of_not_le fun q=>?_;unfold isN at h;rw[List.getElem?_eq_none q] at h;cases h
theorem YcC (B rb:Nat)(ao:Option Addr)(cap:Nat)(L:List Tk)(en i:Nat)(kind:Int)(text:ByteArray)(w:World)(h:Yp B w rb ao cap L en i)(h0:kind≠0):
 Calls Tryz.prog 93 #[.pointer (some ⟨rb,0,none⟩),.int .i64 kind,.string text] w fun e w'=>e= .returned (.bool (isN L i kind text))/\Keep (fun _=>False) w w':=by
 rw[Yq0 h0];have hP:=Yg6 B rb ao cap L en i w h;unfold Ymb at hP;generalize tkAt L i=x at hP⊢;go_enter Tryz.func93,Tryz.ntmps93;go_wp2_with fail;refine hP.mono ?_;rintro e w1 ⟨rfl,hk⟩;clear hP;go_wp2_with fail;all_goals
  go_ret;refine⟨retB ?_,hk.trans (Keep.of_alloc (S:=fun _=>False) _ _) (fun _ _ q=>q)⟩;first
  |(rename_i hq; rw[Yha,hq]; simp)
  |(rename_i hq; simp[hq])
theorem Yci (B rb:Nat)(ao:Option Addr)(cap:Nat)(L:List Tk)(en i:Nat)(s:ByteArray)(w:World)(h:Yp B w rb ao cap L en i)(hs:isN L i 6 s=true):
 Calls Tryz.prog 95 #[.pointer (some ⟨rb,0,none⟩),.string s] w fun e w'=>e= .returned (.bool true)/\Yp B w' rb ao cap L en (i+1)/\Keep (fun k=>k=rb) w w':=by
 have hI:=YcC B rb ao cap L en i 6 s w h Zd;have hi:=Jf hs;have hfew:=h.few;rw[hs] at hI;have a0:(0:Int)<=(i:Int)+1:=Zo;go_enter Tryz.func95,Tryz.ntmps95;go_wp2_with fail;refine hI.mono ?_;rintro e w1 ⟨rfl,hk⟩;have h1:=h.keep hk (fun _ q=>q.elim);have c2:=h1.c2;have f2:=h1.f2;clear hI;go_wp2_with fail;go_ret;exact⟨rfl,h1.set (i+1) hi,(keep_any hk).trans (Keep.of_setCell w1 ⟨rb,2,none⟩ _) (fun _ _ q=>q)⟩
theorem YdB (B rb:Nat)(ao:Option Addr)(cap:Nat)(L:List Tk)(en i:Nat)(s:ByteArray)(w:World)(h:Yp B w rb ao cap L en i)(hs:isN L i 6 s=false):
 Calls Tryz.prog 95 #[.pointer (some ⟨rb,0,none⟩),.string s] w fun e w'=>e= .returned (.bool false)/\Keep (fun _=>False) w w':=by
 have hI:=YcC B rb ao cap L en i 6 s w h Zd;rw[hs] at hI;go_enter Tryz.func95,Tryz.ntmps95;go_wp2_with fail;refine hI.mono ?_;rintro e w1 ⟨rfl,hk⟩;clear hI;go_wp2_with fail;go_ret;exact⟨rfl,hk⟩
def Ypy (B rb:Nat)(ao:Option Addr)(cap:Nat)(L:List Tk)(en:Nat)(w:World)(R:Rd Unit)(e:Ending)(w':World):Prop:=
 Keep (fun k=>k=rb) w w'/\match R with
 |.ok _ j=>e= .returned (.tuple #[])/\Yp B w' rb ao cap L en j
 |.bad a c=>e=misR a c
theorem Ybv (B rb:Nat)(ao:Option Addr)(cap:Nat)(L:List Tk)(en i:Nat)(s:ByteArray)(w:World)(h:Yp B w rb ao cap L en i):
 Calls Tryz.prog 96 #[.pointer (some ⟨rb,0,none⟩),.string s] w (Ypy B rb ao cap L en w (YG L en i s)):=by
 cases hs:isN L i 6 s with
 |
  true=>
  have hS:=Yci B rb ao cap L en i s w h hs;have HR:Hid (YG L en i s= .ok () (i+1)):=Zh (by unfold YG; rw[hs,if_pos rfl]);generalize YG L en i s=R at HR⊢;go_enter Tryz.func96,Tryz.ntmps96;go_wp2_with fail;refine hS.mono ?_;rintro e w1 ⟨rfl,h1,hk⟩;clear hS;go_wp2_with fail;go_end0
  rw[HR.out];exact⟨hk,rfl,h1⟩
 |
  false=>
  have hS:=YdB B rb ao cap L en i s w h hs;have HR:Hid (YG L en i s= .bad (Yby L en i) (YdU L i 50)):=Zh (by unfold YG JA; rw[hs,if_neg Zd]; rfl);generalize YG L en i s=R at HR⊢;go_enter Tryz.func96,Tryz.ntmps96;go_wp2_with fail;refine hS.mono ?_;rintro e w1 ⟨rfl,hk⟩;have hX:=Yae B rb ao cap L en i 50 w1 (h.keep hk (fun _ q=>q.elim));clear hS;go_wp2_with fail;refine hX.mono ?_;rintro e w2 ⟨rfl,hk2⟩;refine⟨rfl,?_⟩;rw[HR.out];exact⟨keep_any (hk.trans hk2 (fun _ _ q=>q)),rfl⟩
def Ypx (B rb:Nat)(ao:Option Addr)(cap:Nat)(L:List Tk)(en:Nat)(w:World)(R:Rd ByteArray)(e:Ending)(w':World):Prop:=
 Keep (fun k=>k=rb) w w'/\match R with
 |.ok s j=>e= .returned (.string s)/\Yp B w' rb ao cap L en j
 |.bad a c=>e=misR a c
theorem name_any (B rb:Nat)(ao:Option Addr)(cap:Nat)(L:List Tk)(en i:Nat)(w:World)(h:Yp B w rb ao cap L en i):
 Calls Tryz.prog 94 #[.pointer (some ⟨rb,0,none⟩)] w (Ypx B rb ao cap L en w (Jn L en i)):=by
 have hP:=Yg6 B rb ao cap L en i w h;unfold Ymb at hP;have hfew:=h.few;by_cases hok:(tkAt L i).kind=3/\(tkAt L i).text.size<=40
 ·have hi:i<L.length:=Nat.lt_of_not_le fun q=>by have:=hok.1; rw[YgS Zo] at this; cases this
  have HN:Hid (Jn L en i= .ok (tkAt L i).text (i+1)):=Zh (by
   rw[YgT hi] at hok⊢;unfold Jn;rw[List.getElem?_eq_getElem hi];exact if_pos hok)
  generalize Jn L en i=R at HN⊢;generalize tkAt L i=x at hP hok HN;obtain⟨kind,text,at_⟩:=x;obtain⟨rfl,hsz⟩:=hok;dsimp only at hP hsz HN;have d0:decide ((40:Int)<(text.size:Int))=false:=Zf;have a0:(0:Int)<=(i:Int)+1:=Zo;go_enter Tryz.func94,Tryz.ntmps94;go_wp2_with fail;refine hP.mono ?_;rintro e w1 ⟨rfl,hk⟩;have h1:=(h.keep hk (fun _ q=>q.elim)).below (below_alloc1 w1 (.cells #[.int .i64 3,.string text,.int .i64 at_] 136));have c2:=h1.c2;have f2:=h1.f2;have hne:rb<w1.heap.size:=(h.keep hk (fun _ q=>q.elim)).lt;clear hP;go_wp2_with fail;go_ret;rw[HN.out];exact⟨((keep_any hk).trans (Keep.of_setCell _ ⟨rb,2,none⟩ _) (fun _ _ q=>q)).trans (Keep.of_alloc (S:=fun _=>False) _ _) (fun _ _ q=>q.elim),rfl,((h.keep hk (fun _ q=>q.elim)).set (i+1) hi).below (below_alloc1 _ _)⟩
 ·have HN:Hid (Jn L en i= .bad (Yby L en i) (YdU L i 50)):=Zh (by
   by_cases hi:i<L.length
   ·rw[YgT hi] at hok;unfold Jn;rw[List.getElem?_eq_getElem hi];exact if_neg hok
   ·unfold Jn;rw[List.getElem?_eq_none Zo];rfl)
  generalize Jn L en i=R at HN⊢;generalize tkAt L i=x at hP hok;obtain⟨kind,text,at_⟩:=x;dsimp only at hP hok;by_cases h3:kind=3
  ·subst h3;have d0:decide ((40:Int)<(text.size:Int))=true:=Zt;go_enter Tryz.func94,Tryz.ntmps94;go_wp2_with fail;refine hP.mono ?_;rintro e w1 ⟨rfl,hk⟩;have h1:=(h.keep hk (fun _ q=>q.elim)).below (below_alloc1 w1 (.cells #[.int .i64 3,.string text,.int .i64 at_] 136));have hX:=Yae B rb ao cap L en i 50 _ h1;clear hP;go_wp2_with fail;refine hX.mono ?_;rintro e w2 ⟨rfl,hk2⟩;refine⟨rfl,?_⟩;rw[HN.out];exact⟨keep_any ((hk.trans (Keep.of_alloc (S:=fun _=>False) _ _) (fun _ _ q=>q)).trans hk2 (fun _ _ q=>q)),rfl⟩
  ·have n3:(kind != 3)=true:=by simpa using h3
   have m3:(kind==3)=false:=by simpa using h3
   clear h3 hok;go_enter Tryz.func94,Tryz.ntmps94;go_wp2_with fail;refine hP.mono ?_;rintro e w1 ⟨rfl,hk⟩;have h1:=(h.keep hk (fun _ q=>q.elim)).below (below_alloc1 w1 (.cells #[.int .i64 kind,.string text,.int .i64 at_] 136));have hX:=Yae B rb ao cap L en i 50 _ h1;clear hP;go_wp2_with fail;all_goals
    refine hX.mono ?_;rintro e w2 ⟨rfl,hk2⟩;refine⟨rfl,?_⟩;rw[HN.out];exact⟨keep_any ((hk.trans (Keep.of_alloc (S:=fun _=>False) _ _) (fun _ _ q=>q)).trans hk2 (fun _ _ q=>q)),rfl⟩
theorem Ts.deep_le:∀l:Ts,l.deep<=l.nodes
 |.nil=>Nat.le_refl _
 |
  .cons k t kids rest=>by
  have h1:=Ts.deep_le kids;have h2:=Ts.deep_le rest;simp only[Ts.deep,Ts.nodes];split<;>omega
def YcN (k:Int)(kids:Ts):Nat:=if k=4\/k=8\/kids.len≠0 then kids.deep+1 else 0
structure DpS (S:Nat->Prop)(T:Ts)(ao:Option Addr)(w wr:World)(k:Nat)(rest:Ts)(d:Nat):Prop where
 len:k+rest.len=T.len
 tail:rest≠.nil->∃g o,ao=some ⟨g,o,none⟩/\S g/\rest.at wr S g (o+k*3)
 count:rest.nodes<=T.nodes
 deep:max d rest.deep=T.deep
 below:Below w.heap.size w wr
theorem DpS.next {S:Nat->Prop}{T:Ts}{g o:Nat}{w wr w2:World}{k:Nat}{kk:Int}{kids rest:Ts}{d d2:Nat}(hl:k+(rest.len+1)=T.len)(hS:S g)(hr:rest.at wr S g (o+k*3+3))(hc:kids.nodes+rest.nodes+1<=T.nodes)
 (hd:max d (max (YcN kk kids) rest.deep)=T.deep)(hd2:d2=max d (YcN kk kids))(hb:Below w.heap.size w wr)(hb2:Below wr.heap.size wr w2):DpS S T (some ⟨g,o,none⟩) w w2 (k+1) rest d2:=
 ⟨by omega,fun hn=>⟨g,o,rfl,hS,by rw[show o+(k+1)*3=o+k*3+3 by omega]; exact Ts.at_keep rest g _ (.inl hS) hr (fun k _ hk=>hb2.block k hk) (fun _ q _=>q)⟩,by omega,by omega,hb.trans (hb2.mono hb.size)⟩
theorem Yjh (d n:Nat):Value.int IntKind.i64 (if (d:Int)<1+(n:Int) then 1+(n:Int) else (d:Int))=Value.int IntKind.i64 ((max d (n+1):Nat):Int):=by
 by_cases h:(d:Int)<1+(n:Int)
 ·rw[if_pos h,Nat.max_eq_right Zo]; congr 1; omega
 ·rw[if_neg h,Nat.max_eq_left Zo]
theorem YiL (S:Nat->Prop):∀(m:Nat) (T:Ts) (v:Value) (w:World),T.nodes<m->TsV w S v T->T.nodes<=1000000000000->
 Calls Tryz.prog 187 #[v] w fun e w'=>e= .returned (.int .i64 T.deep)/\Below w.heap.size w w':=by
 intro m;induction m with
 |zero=>intro T v w hm; omega
 |
  succ m ih=>
  intro T v w hm hT hbig;obtain⟨ao,cap,rfl,htail⟩:=hT;have IH:Hid _:=ih;have hlen:=Ts.len_le T;have hdeep:=Ts.deep_le T;clear ih;go_enter Tryz.func187,Tryz.ntmps187;go_wp2;go_loopw [3,8] (fun x i wr=>∃(k:Nat) (rest:Ts) (d:Nat),i= .int .i64 k/\x= .int .i64 d/\DpS S T ao w wr k rest d) (fun _ i _=>T.len - (intOf i).toNat)
  case atStart=>exact⟨0,T,0,rfl,rfl,Nat.zero_add _,TsV.tail0 htail,Nat.le_refl _,Nat.zero_max _,Below.refl _ _⟩
  case round=>
   obtain⟨k,rest,d,rfl,rfl,hS⟩:=hrel;clear htail;have hdd:d<=T.deep:=by have:=hS.deep; omega
   cases rest with
   |
    nil=>
    have hk:k=T.len:=by have:=hS.len; simpa[Ts.len] using this
    have l0:decide ((k:Int)<(T.len:Int))=false:=Zf;have l1:decide (k<T.len)=false:=Zf;have HD:Hid (d=T.deep):=Zh (by have:=hS.deep; simpa[Ts.deep] using this);clear hk;go_wp2;go_ret;exact⟨retI (by rw[HD.out]),hS.below⟩
   |
    cons kk tt kids rest=>
    have hkl:=hS.len;simp only[Ts.len] at hkl;have l0:decide ((k:Int)<(T.len:Int))=true:=Zt;have l1:decide (k<T.len)=true:=Zt;obtain⟨g,o,rfl,hSg,c0,c1,⟨ao2,cap2,c2,hkids⟩,hrest⟩:=hS.tail (fun q=>by cases q);have hcount:=hS.count;simp only[Ts.nodes] at hcount;have hde:max d (max (YcN kk kids) rest.deep)=T.deep:=hS.deep;have HDE:=Zh hde;have HRE:=Zh hrest;have HB:=Zh hS.below;have hb0:=below_alloc1 wr (.cells #[.int .i64 kk,.string tt,.slice ao2 kids.len cap2] 223);have hkv:TsV (wr.alloc (.cells #[.int .i64 kk,.string tt,.slice ao2 kids.len cap2] 223)) S (.slice ao2 kids.len cap2) kids:=TsV.below ⟨ao2,cap2,rfl,hkids⟩ hb0 (fun _ q _=>q);have hI:=IH.out kids _ _ Zo hkv Zo;have HI:=Zh hI;have hkd:kids.deep<=kids.nodes:=Ts.deep_le kids;have a0:(0:Int)<=1+(kids.deep:Int):=Zo;have a1:1+(kids.deep:Int)<=1000000000001:=Zo;clear hde hrest hkids hkv hI hS;by_cases hc:kk=4\/kk=8\/kids.len≠0
    ·have HO:Hid (YcN kk kids=kids.deep+1):=Zh (by unfold YcN; rw[if_pos hc]);by_cases hk4:kk=4
     ·subst hk4;clear hc;go_wp2_with fail;refine HI.out.mono ?_;rintro e w2 ⟨rfl,hb2⟩;have HN:=Zh (DpS.next (d2:=max d (kids.deep+1)) hkl hSg HRE.out hcount HDE.out (by rw[HO.out]) HB.out (hb0.trans (hb2.mono Zs)));clear HI hb2;go_wp2_with fail;go_roundw
      case rel=>exact⟨k+1,rest,max d (kids.deep+1),by go_num,by rw[Yjh],HN.out⟩
      case measure=>simp[intOf]; omega
     ·have b4:(kk==4)=false:=by simpa using hk4
      by_cases hk8:kk=8
      ·subst hk8;clear hc hk4;go_wp2_with fail;refine HI.out.mono ?_;rintro e w2 ⟨rfl,hb2⟩;have HN:=Zh (DpS.next (d2:=max d (kids.deep+1)) hkl hSg HRE.out hcount HDE.out (by rw[HO.out]) HB.out (hb0.trans (hb2.mono Zs)));clear HI hb2;go_wp2_with fail;go_roundw
       case rel=>exact⟨k+1,rest,max d (kids.deep+1),by go_num,by rw[Yjh],HN.out⟩
       case measure=>simp[intOf]; omega
      ·have b8:(kk==8)=false:=by simpa using hk8
       have hl0:decide ((0:Int)<(kids.len:Int))=true:=Zt;have hl1:decide (0<kids.len)=true:=Zt;clear hc hk4 hk8;go_wp2_with fail;refine HI.out.mono ?_;rintro e w2 ⟨rfl,hb2⟩;have HN:=Zh (DpS.next (d2:=max d (kids.deep+1)) hkl hSg HRE.out hcount HDE.out (by rw[HO.out]) HB.out (hb0.trans (hb2.mono Zs)));clear HI hb2;go_wp2_with fail;go_roundw
       case rel=>exact⟨k+1,rest,max d (kids.deep+1),by go_num,by rw[Yjh],HN.out⟩
       case measure=>simp[intOf]; omega
    ·have HO:Hid (YcN kk kids=0):=Zh (by unfold YcN; rw[if_neg hc]);have b4:(kk==4)=false:=by simpa using fun q=>hc (.inl q)
     have b8:(kk==8)=false:=by simpa using fun q=>hc (.inr (.inl q))
     have hl0:decide ((0:Int)<(kids.len:Int))=false:=Zf;have hl1:decide (0<kids.len)=false:=Zf;have HN:=Zh (DpS.next (d2:=d) hkl hSg HRE.out hcount HDE.out (by rw[HO.out,Nat.max_zero]) HB.out hb0);clear hc HI;go_wp2_with fail;go_roundw
     case rel=>exact⟨k+1,rest,d,by go_num,by trivial,HN.out⟩
     case measure=>simp[intOf]; omega
theorem Yll {P:Program}{f:FuncId}{args:Array Value}{w:World}{n m:Nat}{v:Value}(h:∀n,Calls P f args (w.drewN n) fun e w'=>e= .returned v/\∃j,w'=(w.drewN n).drewN j):
 Calls P f args (w.drewN (n+m)) fun e w''=>e= .returned v/\∃k,w''=w.drewN (n+k):=(h _).mono fun _ _ ⟨a,j,b⟩=>⟨a,m+j,by rw[b,World.drewN_drewN,Nat.add_assoc]⟩
def Ydo (B rb:Nat)(ao:Option Addr)(cap:Nat)(L:List Tk)(en:Nat)(w:World)(R:Rd Ts)(e:Ending)(w':World):Prop:=
 Keep (fun k=>k=rb) w w'/\match R with
 |.ok l j=>∃v,e= .returned v/\TsV w' (fun k=>w.heap.size<=k) v l/\Yp B w' rb ao cap L en j
 |.bad a c=>e=misR a c
def YiS (B rb:Nat)(ao:Option Addr)(cap:Nat)(L:List Tk)(en:Nat)(w:World)(R:Rd (Int×ByteArray×Ts))(e:Ending)(w':World):Prop:=
 Keep (fun k=>k=rb) w w'/\match R with
 |.ok x j=>∃v,e= .returned (.agg #[.int .i64 x.1,.string x.2.1,v])/\TsV w' (fun k=>w.heap.size<=k) v x.2.2/\Yp B w' rb ao cap L en j
 |.bad a c=>e=misR a c
theorem YhJ {x y z:Value}:(Tryz.prog.info? 223).map (·.size)=some (#[x,y,z]:Array Value).size:=by
 show _=some 3;kernel_rfl
structure InW (B rb:Nat)(ao:Option Addr)(cap:Nat)(L:List Tk)(en i:Nat)(w W:World)(k:Int)(t:ByteArray)(v:Value):Prop where
 rdr:Yp B W rb ao cap L en i
 keep:Keep (fun k=>k=rb) w W
 r0:W.heap[w.heap.size]? =some (.cells #[.int .i64 0,.string ⟨#[]⟩,.slice none 0 0] 223 (0,0))
 r1:W.heap[w.heap.size+1]? =some (.cells #[.int .i64 k,.string t,v] 223 (0,0))
section
variable {B rb:Nat}{ao:Option Addr}{cap:Nat}{L:List Tk}{en i j:Nat}{w W W':World}{k:Int}{t:ByteArray}{v:Value}
theorem InW.a0 (h:InW B rb ao cap L en i w W k t v):W.cell? ⟨w.heap.size,0,none⟩=some (.int .i64 0):=by simp[World.cell?,h.r0]
theorem InW.a1 (h:InW B rb ao cap L en i w W k t v):W.cell? ⟨w.heap.size,1,none⟩=some (.string ⟨#[]⟩):=by simp[World.cell?,h.r0]
theorem InW.a2 (h:InW B rb ao cap L en i w W k t v):W.cell? ⟨w.heap.size,2,none⟩=some (.slice none 0 0):=by simp[World.cell?,h.r0]
theorem InW.b0 (h:InW B rb ao cap L en i w W k t v):W.cell? ⟨w.heap.size+1,0,none⟩=some (.int .i64 k):=by simp[World.cell?,h.r1]
theorem InW.b1 (h:InW B rb ao cap L en i w W k t v):W.cell? ⟨w.heap.size+1,1,none⟩=some (.string t):=by simp[World.cell?,h.r1]
theorem InW.b2 (h:InW B rb ao cap L en i w W k t v):W.cell? ⟨w.heap.size+1,2,none⟩=some v:=by simp[World.cell?,h.r1]
theorem InW.fa (h:InW B rb ao cap L en i w W k t v)(o:Nat):W.frozen? ⟨w.heap.size,o,none⟩=false:=by simp[World.frozen?,h.r0]
theorem InW.fb (h:InW B rb ao cap L en i w W k t v)(o:Nat):W.frozen? ⟨w.heap.size+1,o,none⟩=false:=by simp[World.frozen?,h.r1]
theorem InW.size (h:InW B rb ao cap L en i w W k t v):w.heap.size+1<W.heap.size:=(Zg h.r1).1
theorem InW.call (h:InW B rb ao cap L en i w W k t v)(hw:B<=w.heap.size)(hK:Keep (fun k=>k=rb) W W')(hR:Yp B W' rb ao cap L en j):InW B rb ao cap L en j w W' k t v:=by
 have hl:=h.rdr.low;have hs:=h.size;exact⟨hR,h.keep.trans hK (fun _ _ q=>q),(hK.block _ Zo Zo).trans h.r0,(hK.block _ Zo Zo).trans h.r1⟩
theorem InW.kids (h:InW B rb ao cap L en i w W k t v)(hw:B<=w.heap.size)(u:Value):InW B rb ao cap L en i w (W.setCell ⟨w.heap.size+1,2,none⟩ u) k t u:=by
 have hl:=h.rdr.low;have hs:=h.size;have hK:=Keep.of_setCell W ⟨w.heap.size+1,2,none⟩ u;refine⟨h.rdr.keep hK (fun k q=>?_),h.keep.new hK (fun k q=>?_),(hK.block _ Zo (by show ¬w.heap.size=w.heap.size+1; omega)).trans h.r0,?_⟩
 ·have:k=w.heap.size+1:=q; omega
 ·have:k=w.heap.size+1:=q; omega
 ·have:=heap_setCell_same W (w.heap.size+1) 2 _ _ u h.r1; simpa using this
theorem InW.callT (h:InW B rb ao cap L en i w W k t v)(hw:B<=w.heap.size)(nm:ByteArray):InW B rb ao cap L en i w (((W.setCell ⟨w.heap.size+1,0,none⟩ (.int .i64 8)).setCell ⟨w.heap.size+1,1,none⟩ (.string nm)).setCell ⟨w.heap.size+1,2,none⟩ (.slice none 0 0)) 8 nm (.slice none 0 0):=by
 have hl:=h.rdr.low;have hs:=h.size;have hK:=Yb1 W (w.heap.size+1) (.int .i64 8) (.string nm) (.slice none 0 0);exact⟨h.rdr.keep hK (fun k q=>by omega),h.keep.new hK (fun k q=>by omega),(hK.block _ Zo Zo).trans h.r0,Yb2 W (w.heap.size+1) _ _ _ _ _ _ h.r1⟩
theorem InW.start (h:Yp B w rb ao cap L en i)(hw:B<=w.heap.size)(hi:i<L.length)
 (hW:W=((w.setCell ⟨rb,2,none⟩ (.int .i64 ((i:Int)+1))).alloc (.cells #[.int .i64 0,.string ⟨#[]⟩,.slice none 0 0] 223)).alloc (.cells #[.int .i64 4,.string ⟨#[]⟩,.slice none 0 0] 223)):
 InW B rb ao cap L en (i+1) w W 4 ⟨#[]⟩ (.slice none 0 0):=by
 subst hW;have hl:=h.low;have h1:Yp B (w.setCell ⟨rb,2,none⟩ (.int .i64 ((i:Int)+1))) rb ao cap L en (i+1):=h.set (i+1) hi;have hk:=Keep.of_setCell w ⟨rb,2,none⟩ (.int .i64 ((i:Int)+1));have hz:(w.setCell ⟨rb,2,none⟩ (.int .i64 ((i:Int)+1))).heap.size=w.heap.size:=Zs;generalize w.setCell ⟨rb,2,none⟩ (.int .i64 ((i:Int)+1))=W1 at h1 hk hz⊢;have n0:=heap_alloc_new W1 (.cells #[.int .i64 0,.string ⟨#[]⟩,.slice none 0 0] 223);have h2:=h1.below (below_alloc1 W1 (.cells #[.int .i64 0,.string ⟨#[]⟩,.slice none 0 0] 223));have hk2:=hk.trans (Keep.of_alloc (S:=fun _=>False) W1 (.cells #[.int .i64 0,.string ⟨#[]⟩,.slice none 0 0] 223)) (fun _ _ q=>q.elim);have hz2:(W1.alloc (.cells #[.int .i64 0,.string ⟨#[]⟩,.slice none 0 0] 223)).heap.size=w.heap.size+1:=by simp[hz]
 rw[hz] at n0;generalize W1.alloc (.cells #[.int .i64 0,.string ⟨#[]⟩,.slice none 0 0] 223)=W2 at n0 h2 hk2 hz2⊢;have n1:=heap_alloc_new W2 (.cells #[.int .i64 4,.string ⟨#[]⟩,.slice none 0 0] 223);rw[hz2] at n1;exact⟨h2.below (below_alloc1 W2 _),hk2.trans (Keep.of_alloc (S:=fun _=>False) W2 _) (fun _ _ q=>q.elim),(Below.heap_alloc W2 _ _ Zo).trans n0,n1⟩
end
theorem Yo3 (B rb:Nat)(ao:Option Addr)(cap:Nat)(L:List Tk)(en:Nat)(pat call:Bool)(deep i n:Nat)(w:World)(h:Yp B w rb ao cap L en i)(hi:i<L.length)(hdeep:deep<=100)
 (IH:deep<100->∀(j:Nat) (w':World),i<j->Yp B w' rb ao cap L en j->Calls Tryz.prog 138 #[.pointer (some ⟨rb,0,none⟩),.bool pat,.int .i64 ((deep:Int)+1)] w' (Ydo B rb ao cap L en w' (Yc L en pat n (deep+1) j .nil))):
 Calls Tryz.prog 191 #[.pointer (some ⟨rb,0,none⟩),.bool call,.bool pat,.int .i64 deep] w (YiS B rb ao cap L en w (JH L en pat n call deep i)):=by
 have hw:=h.size;have HI:Hid _:=IH;clear IH;by_cases hcp:(call&&pat)=true
 ·have HR:Hid (JH L en pat n call deep i= .bad (Yby L en i) (YdU L i 52)):=Zh (by unfold JH JA YdU; rw[if_pos hcp]);generalize JH L en pat n call deep i=R at HR⊢;have h1:call=true:=by cases call<;>simp_all
  have h2:pat=true:=by cases pat<;>simp_all
  subst h1 h2;clear hcp;have hF:=Yae B rb ao cap L en i 52 _ (h.below (below_alloc1 w (.cells #[.int .i64 0,.string ⟨#[]⟩,.slice none 0 0] 223)));go_enter Tryz.func191,Tryz.ntmps191;go_wp2_with fail;refine hF.mono ?_;rintro e w2 ⟨rfl,hk2⟩;refine⟨rfl,?_⟩;rw[HR.out];exact⟨keep_any ((Keep.of_alloc (S:=fun _=>False) _ _).trans hk2 (fun _ _ q=>q)),rfl⟩
 ·by_cases hd:100<=deep
  ·obtain rfl:deep=100:=by omega
   have HR:Hid (JH L en pat n call 100 i= .bad (Yby L en i) (YdU L i 54)):=Zh (by unfold JH JA YdU; rw[if_neg hcp,if_pos (Nat.le_refl _)]);generalize JH L en pat n call 100 i=R at HR⊢;have hF:=Yae B rb ao cap L en i 54 _ (h.below (below_alloc1 w (.cells #[.int .i64 0,.string ⟨#[]⟩,.slice none 0 0] 223)));clear HI;cases call<;>cases pat<;>first | (exact absurd rfl hcp) | skip
   all_goals
    clear hcp;go_enter Tryz.func191,Tryz.ntmps191;go_wp2_with fail;refine hF.mono ?_;rintro e w2 ⟨rfl,hk2⟩;refine⟨rfl,?_⟩;rw[HR.out];exact⟨keep_any ((Keep.of_alloc (S:=fun _=>False) _ _).trans hk2 (fun _ _ q=>q)),rfl⟩
  ·have a0:(0:Int)<=(deep:Int)+1:=by omega
   have a1:(deep:Int)+1<=100:=Zo;have d0:decide ((100:Int)<=(deep:Int))=false:=Zf;have a2:(0:Int)<=(i:Int)+1:=Zo;have hfew:=h.few;have c2:=h.c2;have f2:=h.f2;have hlt:=h.lt;cases call with
   |
    false=>
    have HR:Hid (JH L en pat n false deep i=(Yc L en pat n (deep+1) (i+1) .nil).bind fun kids j=>(YG L en j Yax).bind fun _ k=>.ok (4,⟨#[]⟩,kids) k):=Zh (by unfold JH; rw[if_neg hcp,if_neg hd,if_neg Bool.false_ne_true]);generalize JH L en pat n false deep i=R at HR⊢;clear hcp hd;go_enter Tryz.func191,Tryz.ntmps191;go_wp2_with fail;have hIn:=InW.start h hw hi rfl;generalize((w.setCell ⟨rb,2,none⟩ (.int .i64 ((i:Int)+1))).alloc (.cells #[.int .i64 0,.string ⟨#[]⟩,.slice none 0 0] 223)).alloc (.cells #[.int .i64 4,.string ⟨#[]⟩,.slice none 0 0] 223)=W0 at hIn⊢;have hT:=HI.out Zo (i+1) W0 Zo hIn.rdr;clear c2 f2;generalize Yc L en pat n (deep+1) (i+1) .nil=T at hT HR;refine hT.mono ?_;clear hT HI;intro e w1 hP;cases T with
    |
     bad a c=>
     obtain⟨hK,rfl⟩:=hP;refine⟨rfl,?_⟩;rw[HR.out];exact⟨hIn.keep.trans hK (fun _ _ q=>q),rfl⟩
    |
     ok kids j=>
     obtain⟨hK,v,rfl,hv,hR1⟩:=hP;have h1:=hIn.call hw hK hR1;obtain⟨ao2,cap2,rfl⟩:=hv.form;have h2:=h1.kids hw (.slice ao2 kids.len cap2);have f2:=h1.fb 2;have b2:=h1.b2;have HN:=hIn.size;have hv2:TsV (w1.setCell ⟨w.heap.size+1,2,none⟩ (.slice ao2 kids.len cap2)) (fun k=>W0.heap.size<=k) (.slice ao2 kids.len cap2) kids:=hv.keep (fun k q hk=>(Keep.of_setCell w1 ⟨w.heap.size+1,2,none⟩ (.slice ao2 kids.len cap2)).block k hk (by show ¬k=w.heap.size+1; omega)) (fun k q _=>q);clear hIn hK hR1 hv;go_wp2_with fail;generalize w1.setCell ⟨w.heap.size+1,2,none⟩ (.slice ao2 kids.len cap2)=W2 at h2 hv2⊢;have hM:=Ybv B rb ao cap L en j Yax W2 h2.rdr;clear f2 b2;generalize hm:YG L en j Yax=M at hM;have HM:=Zh hm;clear hm;refine hM.mono ?_;clear hM;intro e w3 hP;cases M with
     |
      bad a c=>
      obtain⟨hK,rfl⟩:=hP;refine⟨rfl,?_⟩;rw[HR.out];dsimp only[Rd.bind];rw[HM.out];exact⟨h2.keep.trans hK (fun _ _ q=>q),rfl⟩
     |
      ok u q=>
      obtain⟨hK,rfl,hR3⟩:=hP;have h3:=h2.call hw hK hR3;have hrb:=h2.rdr.low;have hv3:TsV w3 (fun k=>W0.heap.size<=k) (.slice ao2 kids.len cap2) kids:=hv2.keep (fun k q hk=>hK.block k hk Zo) (fun k q _=>q);clear hv2 h2 hK hR3;have a0:=h3.a0;have a1:=h3.a1;have a2:=h3.a2;have b0:=h3.b0;have b1:=h3.b1;have b2:=h3.b2;have f0:=h3.fa 0;have f1:=h3.fa 1;have f2:=h3.fa 2;have HV:=Zh hv3;have H3:=Zh h3;clear hv3 h3;go_wp2_with fail;refine bodyPost_ret (v:=.agg #[.int .i64 4,.string ⟨#[]⟩,.slice ao2 kids.len cap2]) ?_ rfl ?_
      ·exact results_cell_row rfl _ _ w.heap.size 223 _ (0,0) _ rfl (Yb2 w3 w.heap.size _ _ _ _ _ _ H3.out.r0) Tryz.underlying223 rfl YhJ
      ·rw[HR.out];dsimp only[Rd.bind];rw[HM.out];have hK4:=Yb1 w3 w.heap.size (.int .i64 4) (.string ⟨#[]⟩) (.slice ao2 kids.len cap2);refine⟨H3.out.keep.new hK4 (fun k q=>Nat.le_of_eq q.symm),_,rfl,HV.out.keep (fun k q hk=>hK4.block k hk Zo) (fun k q _=>by omega),H3.out.rdr.keep hK4 (fun k q=>by omega)⟩
   |
    true=>
    have hp:pat=false:=by cases pat<;>simp_all
    subst hp;have HR:Hid (JH L en false n true deep i=(Jn L en (i+1)).bind fun nm m=>(Yc L en false n (deep+1) m .nil).bind fun kids j=>(YG L en j YbM).bind fun _ k=>.ok (8,nm,kids) k):=Zh (by unfold JH; rw[if_neg hcp,if_neg hd,if_pos rfl]);generalize JH L en false n true deep i=R at HR⊢;clear hcp hd;go_enter Tryz.func191,Tryz.ntmps191;go_wp2_with fail;have hIn:=InW.start h hw hi rfl;generalize((w.setCell ⟨rb,2,none⟩ (.int .i64 ((i:Int)+1))).alloc (.cells #[.int .i64 0,.string ⟨#[]⟩,.slice none 0 0] 223)).alloc (.cells #[.int .i64 4,.string ⟨#[]⟩,.slice none 0 0] 223)=Wz at hIn⊢;have hN:=name_any B rb ao cap L en (i+1) Wz hIn.rdr;generalize hn:Jn L en (i+1)=N at hN HR;have HNm:=Zh hn;clear hn;refine hN.mono ?_;clear hN;intro e wn hP;cases N with
    |
     bad a c=>
     obtain⟨hK,rfl⟩:=hP;refine⟨rfl,?_⟩;rw[HR.out];exact⟨hIn.keep.trans hK (fun _ _ q=>q),rfl⟩
    |
     ok nm m=>
     obtain⟨hK,rfl,hRn⟩:=hP;have hmi:i+1<m:=by have:=YaD HNm.out; omega
     have hn:=hIn.call hw hK hRn;clear hIn hK hRn HNm;have g0:=hn.fb 0;have g1:=hn.fb 1;have g2:=hn.fb 2;have k0:=hn.b0;have k1:=hn.b1;have k2:=hn.b2;have HIn:=Zh (hn.callT hw nm);clear hn;have HR2:Hid (R=(Yc L en false n (deep+1) m .nil).bind fun kids j=>(YG L en j YbM).bind fun _ k=>.ok (8,nm,kids) k):=HR;clear HR;have HR:=HR2;clear HR2;go_wp2_with fail;have hIn:=HIn.out;clear HIn g0 g1 g2 k0 k1 k2;generalize((wn.setCell ⟨w.heap.size+1,0,none⟩ (.int .i64 8)).setCell ⟨w.heap.size+1,1,none⟩ (.string nm)).setCell ⟨w.heap.size+1,2,none⟩ (.slice none 0 0)=W0 at hIn⊢;have hT:=HI.out Zo m W0 Zo hIn.rdr;clear c2 f2;generalize Yc L en false n (deep+1) m .nil=T at hT HR;refine hT.mono ?_;clear hT HI;intro e w1 hP;cases T with
     |
      bad a c=>
      obtain⟨hK,rfl⟩:=hP;refine⟨rfl,?_⟩;rw[HR.out];exact⟨hIn.keep.trans hK (fun _ _ q=>q),rfl⟩
     |
      ok kids j=>
      obtain⟨hK,v,rfl,hv,hR1⟩:=hP;have h1:=hIn.call hw hK hR1;obtain⟨ao2,cap2,rfl⟩:=hv.form;have h2:=h1.kids hw (.slice ao2 kids.len cap2);have f2:=h1.fb 2;have b2:=h1.b2;have HN:=hIn.size;have hv2:TsV (w1.setCell ⟨w.heap.size+1,2,none⟩ (.slice ao2 kids.len cap2)) (fun k=>W0.heap.size<=k) (.slice ao2 kids.len cap2) kids:=hv.keep (fun k q hk=>(Keep.of_setCell w1 ⟨w.heap.size+1,2,none⟩ (.slice ao2 kids.len cap2)).block k hk (by show ¬k=w.heap.size+1; omega)) (fun k q _=>q);clear hIn hK hR1 hv;go_wp2_with fail;generalize w1.setCell ⟨w.heap.size+1,2,none⟩ (.slice ao2 kids.len cap2)=W2 at h2 hv2⊢;have hM:=Ybv B rb ao cap L en j YbM W2 h2.rdr;clear f2 b2;generalize hm:YG L en j YbM=M at hM;have HM:=Zh hm;clear hm;refine hM.mono ?_;clear hM;intro e w3 hP;cases M with
      |
       bad a c=>
       obtain⟨hK,rfl⟩:=hP;refine⟨rfl,?_⟩;rw[HR.out];dsimp only[Rd.bind];rw[HM.out];exact⟨h2.keep.trans hK (fun _ _ q=>q),rfl⟩
      |
       ok u q=>
       obtain⟨hK,rfl,hR3⟩:=hP;have h3:=h2.call hw hK hR3;have hrb:=h2.rdr.low;have hv3:TsV w3 (fun k=>W0.heap.size<=k) (.slice ao2 kids.len cap2) kids:=hv2.keep (fun k q hk=>hK.block k hk Zo) (fun k q _=>q);clear hv2 h2 hK hR3;have a0:=h3.a0;have a1:=h3.a1;have a2:=h3.a2;have b0:=h3.b0;have b1:=h3.b1;have b2:=h3.b2;have f0:=h3.fa 0;have f1:=h3.fa 1;have f2:=h3.fa 2;have HV:=Zh hv3;have H3:=Zh h3;clear hv3 h3;go_wp2_with fail;refine bodyPost_ret (v:=.agg #[.int .i64 8,.string nm,.slice ao2 kids.len cap2]) ?_ rfl ?_
       ·exact results_cell_row rfl _ _ w.heap.size 223 _ (0,0) _ rfl (Yb2 w3 w.heap.size _ _ _ _ _ _ H3.out.r0) Tryz.underlying223 rfl YhJ
       ·rw[HR.out];dsimp only[Rd.bind];rw[HM.out];have hK4:=Yb1 w3 w.heap.size (.int .i64 8) (.string nm) (.slice ao2 kids.len cap2);refine⟨H3.out.keep.new hK4 (fun k q=>Nat.le_of_eq q.symm),_,rfl,HV.out.keep (fun k q hk=>hK4.block k hk Zo) (fun k q _=>by omega),H3.out.rdr.keep hK4 (fun k q=>by omega)⟩
def rdI (rb:Nat)(w:World):Nat:=match w.cell? ⟨rb,2,none⟩ with | some (.int _ i)=>i.toNat | _=>0
theorem Yp.rdI {B rb:Nat}{ao:Option Addr}{cap:Nat}{L:List Tk}{en i:Nat}{w:World}(h:Yp B w rb ao cap L en i):Go.Proofs.YteamjdmhdfjopaaGreatDoor.rdI rb w=i:=by unfold Go.Proofs.YteamjdmhdfjopaaGreatDoor.rdI; rw[h.c2]; simp
def varV (s:ByteArray):Value:=if YF s=true then .agg #[.int .i64 (JS (bt s 0)),.string (s.extract 2 s.size),.slice none 0 0] else .agg #[.int .i64 0,.string ⟨#[]⟩,.slice none 0 0]
def J3:Prop:=∀(s:ByteArray) (w:World),s.size<=40000->Calls Tryz.prog 190 #[.string s] w fun e w'=>e= .returned (.tuple #[varV s,.bool (YF s)])/\Below w.heap.size w w'
structure TmS (B rb:Nat)(ao:Option Addr)(cap:Nat)(L:List Tk)(en:Nat)(pat:Bool)(deep:Nat)(R:Rd Ts)(w wr:World)(v:Value)(acc:Ts)(i n:Nat):Prop where
 fuel:L.length - i<n
 eq:Yc L en pat n deep i acc=R
 rdr:Yp B wr rb ao cap L en i
 own:OwnR wr w.heap.size 223 3 v acc.len (tsF acc)
 keep:Keep (fun k=>k=rb) w wr
 len:acc.len<=i*40001
section
variable {B rb:Nat}{ao:Option Addr}{cap:Nat}{L:List Tk}{en:Nat}{pat:Bool}{deep:Nat}{R:Rd Ts}{w wr w1 w2:World}{v v2:Value}{acc l2:Ts}{i j n:Nat}
theorem TmS.next (h:TmS B rb ao cap L en pat deep R w wr v acc i (n+1))(hw:B<=w.heap.size)(heq:Yc L en pat (n+1) deep i acc=Yc L en pat n deep j (acc.app l2))(K1:Keep (fun k=>k=rb) wr w1)(K12:Keep (fun k=>v.ownBlock=some k) w1 w2)
 (hR:Yp B w1 rb ao cap L en j)(own2:OwnR w2 w.heap.size 223 3 v2 (acc.len+l2.len) (tsF (acc.app l2)))(hl:l2.len<=40001)(hj:i<j):TmS B rb ao cap L en pat deep R w w2 v2 (acc.app l2) j n:=by
 have hb:∀k,v.ownBlock=some k->w.heap.size<=k:=fun k q=>(h.own.own_lt k q).1;have hf:=h.fuel;have hjl:=hR.le;refine⟨by omega,by rw[<-heq]; exact h.eq,hR.keep K12 (fun k q=>Nat.le_trans hw (hb k q)),by rw[Ts.len_app]; exact own2,(h.keep.trans K1 (fun _ _ q=>q)).new K12 (fun k q=>hb k q),?_⟩;rw[Ts.len_app];have h1:=h.len;have h2:i*40001+40001<=j*40001:=by
  have:=Nat.mul_le_mul_right 40001 (show i+1<=j from hj);rw[Nat.add_mul] at this;omega
 omega
theorem TmS.inc (h:TmS B rb ao cap L en pat deep R w wr v acc i (n+1))(hw:B<=w.heap.size)(heq:Yc L en pat (n+1) deep i acc=Yc L en pat n deep (i+1) (acc.app l2))(K1:Keep (fun _=>False) wr w1)(K12:Keep (fun k=>v.ownBlock=some k) w1 w2)
 (own2:OwnR w2 w.heap.size 223 3 v2 (acc.len+l2.len) (tsF (acc.app l2)))(hl:l2.len<=40001)(hi:i<L.length):TmS B rb ao cap L en pat deep R w (w2.setCell ⟨rb,2,none⟩ (.int .i64 ((i:Int)+1))) v2 (acc.app l2) (i+1) n:=by
 have hb:∀k,v.ownBlock=some k->w.heap.size<=k:=fun k q=>(h.own.own_lt k q).1;have hf:=h.fuel;have hlow:=h.rdr.low;have h2:Yp B w2 rb ao cap L en i:=(h.rdr.keep K1 (fun k q=>q.elim)).keep K12 (fun k q=>Nat.le_trans hw (hb k q));have KS:=Keep.of_setCell w2 ⟨rb,2,none⟩ (.int .i64 ((i:Int)+1));refine⟨by omega,by rw[<-heq]; exact h.eq,h2.set (i+1) hi,?_,?_,?_⟩
 ·rw[Ts.len_app];exact own2.keep (Yi _) KS (fun k q=>by have:k=rb:=q; omega)
 ·exact((h.keep.trans K1 (fun _ _ q=>q.elim)).new K12 (fun k q=>hb k q)).trans KS (fun _ _ q=>q)
 ·rw[Ts.len_app];have h1:=h.len;have:(i+1)*40001=i*40001+40001:=by rw[Nat.add_mul]
  omega
end
theorem Yf0 (hV:J3)(B rb:Nat)(ao:Option Addr)(cap:Nat)(L:List Tk)(en:Nat)(pat:Bool)(deep i0 n0:Nat)(w:World)(h0:Yp B w rb ao cap L en i0)(hdeep:deep<=100)(hn0:L.length - i0<n0)
 (IH:∀(n j:Nat) (w':World),i0<=j->j<L.length->L.length - j<n+1->∀call,Yp B w' rb ao cap L en j->Calls Tryz.prog 191 #[.pointer (some ⟨rb,0,none⟩),.bool call,.bool pat,.int .i64 deep] w' (YiS B rb ao cap L en w' (JH L en pat n call deep j))):
 Calls Tryz.prog 138 #[.pointer (some ⟨rb,0,none⟩),.bool pat,.int .i64 deep] w (Ydo B rb ao cap L en w (Yc L en pat n0 deep i0 .nil)):=by
 have hw:=h0.size;have HV:Hid J3:=hV;have HI:Hid _:=IH;clear hV IH;generalize hR:Yc L en pat n0 deep i0 .nil=R;have HR:=Zh hR;clear hR;go_enter Tryz.func138,Tryz.ntmps138;go_wp2;go_loopw [7] (fun v wr=>∃acc i n,i0<=i/\TmS B rb ao cap L en pat deep R w wr v acc i n) (fun _ wr=>L.length - rdI rb wr)
 case atStart=>exact⟨.nil,i0,n0,Nat.le_refl _,hn0,HR.out,h0,OwnR.nil (fun _=>rfl),Keep.refl _ _,Nat.zero_le _⟩
 case round=>
  obtain⟨acc,i,n,hi0,hS⟩:=hrel;have hP:=Yg6 B rb ao cap L en i wr hS.rdr;unfold Ymb at hP;have hfew:=hS.rdr.few;have hile:=hS.rdr.le;obtain⟨n,rfl⟩:∃q,n=q+1:=⟨n - 1,by have:=hS.fuel; omega⟩;have a0:(0:Int)<=(i:Int)+1:=Zo;by_cases hi:i<L.length
  ·rw[YgT hi] at hP;have hx:L[i]? =some L[i]:=List.getElem?_eq_getElem hi;have hts:L[i].text.size<=40000:=hS.rdr.small _ (List.getElem_mem hi);generalize L[i]=x at hP hx hts;obtain⟨kind,text,at_⟩:=x;dsimp only at hP hts;have HTS:=Zh hts;have HX:=Zh hx;clear hts hx;by_cases k1:kind=1
   ·subst k1;have HE:Hid (Yc L en pat (n+1) deep i acc=Yc L en pat n deep (i+1) (acc.app (YbK text))):=Zh (Yi6 HX.out rfl);go_wp2_with fail;refine hP.mono ?_;rintro e w1 ⟨rfl,hk1⟩;have hC:=Yof text (w1.alloc (.cells #[.int .i64 1,.string text,.int .i64 at_] 136)) HTS.out;clear hP;go_wp2_with fail;refine hC.mono ?_;clear hC;rintro e w2 ⟨v2,rfl,hv2,hb2⟩;obtain⟨ao2,cap2,rfl⟩:=hv2.form;have hK:Keep (fun _=>False) wr w2:=(hk1.trans (Keep.of_alloc (S:=fun _=>False) _ _) (fun _ _ q=>q)).trans (Keep.of_below (S:=fun _=>False) hb2) (fun _ _ q=>q);have hO:=hS.own.keep (Yi _) hK (fun k q=>q.elim);have hR1:=hS.rdr.keep hK (fun k q=>q.elim);have hsz:=hS.keep.size;have hsz1:=hk1.size;have hlen:=hS.len;obtain⟨_,xs,hf,hl,h1,hne⟩:=hv2.news;have hz:(YbK text).len=text.size:=Yfu _ _ _;have hf2:tsF (YbK text) w2 (fun k=>w.heap.size<=k/\u7.ownBlock≠some k) xs:=Ts.flat_to hf (fun k q _=>by
     have q1:(w1.alloc (.cells #[.int .i64 1,.string text,.int .i64 at_] 136)).heap.size<=k:=q;simp only[World.size_alloc] at q1;refine⟨by omega,fun e1=>?_⟩;have:=(hS.own.own_lt k e1).2;omega)
    have HO:=Zh hO;have HK:=Zh hK;have HR1:=Zh hR1;have HNW:=Zh hne;have HF:=Zh hf2;have HL:=Zh hl;have H1:=Zh h1;have HZ:=Zh hz;clear hO hK hR1 hne hf hf2 hl h1 hz hv2 hb2;go_wp2_with (
     at_builtin;refine Jg rfl _ _ 35 rfl w.heap.size 223 3 48 YbT _ _ rfl HO.out (Yi _) (Yi (YbK text)) (YbQ _ _) ao2 _ cap2 xs rfl HF.out HL.out HNW.out H1.out (by have:=hlen; have:=hfew; have:=Nat.mul_le_mul_right 40001 (show i<=40000 by omega); have:=HZ.out; have:=HTS.out; omega) Zo (by have:=HK.out.size; omega) ?_;intro v3 w3 hO3 hK3 hat3;have hR3:=HR1.out.keep hK3 (fun k q=>Nat.le_trans hw (hS.own.own_lt k q).1);have c2:=hR3.c2;have f2:=hR3.f2;have HS:=Zh (hS.inc hw HE.out HK.out hK3 hO3 (by have:=HZ.out; have:=HTS.out; omega) hi);clear hO3 hK3 hat3 hR3)
    go_roundw
    case rel=>exact⟨_,i+1,n,by omega,HS.out⟩
    case measure=>
     have e1:=HS.out.rdr.rdI;have e2:=hS.rdr.rdI;rw[e1,e2];omega
   ·by_cases k2:kind=2
    ·subst k2;have HE:Hid (Yc L en pat (n+1) deep i acc=Yc L en pat n deep (i+1) (acc.app (oneT 2 text .nil))):=Zh (YfX HX.out (.inl rfl));go_wp2_with fail;refine hP.mono ?_;rintro e w1 ⟨rfl,hk1⟩;have hK:Keep (fun _=>False) wr ((w1.alloc (.cells #[.int .i64 2,.string text,.int .i64 at_] 136)).alloc (.cells #[.int .i64 2,.string text,.slice none 0 0] 223)):=(hk1.trans (Keep.of_alloc (S:=fun _=>False) _ _) (fun _ _ q=>q)).trans (Keep.of_alloc (S:=fun _=>False) _ _) (fun _ _ q=>q);have hO:=hS.own.keep (Yi _) hK (fun k q=>q.elim);have hR1:=hS.rdr.keep hK (fun k q=>q.elim);have hsz:=hS.keep.size;have hsz1:=hk1.size;have hlen:=hS.len;have hnews:=Yg7 (w1.alloc (.cells #[.int .i64 2,.string text,.int .i64 at_] 136)) (.int .i64 2) (.string text) (.slice none 0 0) 223;have hwz:(w1.alloc (.cells #[.int .i64 2,.string text,.int .i64 at_] 136)).heap.size=w1.heap.size+1:=Zs;rw[hwz] at hnews;have HO:=Zh hO;have HK:=Zh hK;have HR1:=Zh hR1;have HNW:=Zh hnews;clear hO hK hR1 hnews hwz hP;go_wp2_with (
      at_builtin;refine Jg rfl _ _ 35 rfl w.heap.size 223 3 48 YbT _ _ rfl HO.out (Yi _) (Yi (oneT 2 text .nil)) (YbQ _ _) (some ⟨w1.heap.size+1,0,none⟩) 1 1 [.int .i64 2,.string text,.slice none 0 0] rfl (Ts.flat_single _ _ (TsV.nil _ _)) rfl (fun _=>⟨_,0,rfl,HNW.out⟩) (by simp[Value.oneCell']) (by have:=hlen; have:=hfew; have:=Nat.mul_le_mul_right 40001 (show i<=40000 by omega); omega) Zo (by have:=HK.out.size; omega) ?_;intro v3 w3 hO3 hK3 hat3;have hR3:=HR1.out.keep hK3 (fun k q=>Nat.le_trans hw (hS.own.own_lt k q).1);have c2:=hR3.c2;have f2:=hR3.f2;have HS:=Zh (hS.inc hw HE.out HK.out hK3 hO3 (by show 1<=40001; omega) hi);clear hO3 hK3 hat3 hR3)
     go_roundw
     case rel=>exact⟨_,i+1,n,by omega,HS.out⟩
     case measure=>
      have e1:=HS.out.rdr.rdI;have e2:=hS.rdr.rdI;rw[e1,e2];omega
    ·by_cases k3:kind=3
     ·subst k3;have HE:Hid (Yc L en pat (n+1) deep i acc=Yc L en pat n deep (i+1) (acc.app (oneT 2 text .nil))):=Zh (YfX HX.out (.inr rfl));clear k1 k2;go_wp2_with fail;refine hP.mono ?_;rintro e w1 ⟨rfl,hk1⟩;have hK:Keep (fun _=>False) wr ((w1.alloc (.cells #[.int .i64 3,.string text,.int .i64 at_] 136)).alloc (.cells #[.int .i64 2,.string text,.slice none 0 0] 223)):=(hk1.trans (Keep.of_alloc (S:=fun _=>False) _ _) (fun _ _ q=>q)).trans (Keep.of_alloc (S:=fun _=>False) _ _) (fun _ _ q=>q);have hO:=hS.own.keep (Yi _) hK (fun k q=>q.elim);have hR1:=hS.rdr.keep hK (fun k q=>q.elim);have hsz:=hS.keep.size;have hsz1:=hk1.size;have hlen:=hS.len;have hnews:=Yg7 (w1.alloc (.cells #[.int .i64 3,.string text,.int .i64 at_] 136)) (.int .i64 2) (.string text) (.slice none 0 0) 223;have hwz:(w1.alloc (.cells #[.int .i64 3,.string text,.int .i64 at_] 136)).heap.size=w1.heap.size+1:=Zs;rw[hwz] at hnews;have HO:=Zh hO;have HK:=Zh hK;have HR1:=Zh hR1;have HNW:=Zh hnews;clear hO hK hR1 hnews hwz hP;go_wp2_with (
       at_builtin;refine Jg rfl _ _ 35 rfl w.heap.size 223 3 48 YbT _ _ rfl HO.out (Yi _) (Yi (oneT 2 text .nil)) (YbQ _ _) (some ⟨w1.heap.size+1,0,none⟩) 1 1 [.int .i64 2,.string text,.slice none 0 0] rfl (Ts.flat_single _ _ (TsV.nil _ _)) rfl (fun _=>⟨_,0,rfl,HNW.out⟩) (by simp[Value.oneCell']) (by have:=hlen; have:=hfew; have:=Nat.mul_le_mul_right 40001 (show i<=40000 by omega); omega) Zo (by have:=HK.out.size; omega) ?_;intro v3 w3 hO3 hK3 hat3;have hR3:=HR1.out.keep hK3 (fun k q=>Nat.le_trans hw (hS.own.own_lt k q).1);have c2:=hR3.c2;have f2:=hR3.f2;have HS:=Zh (hS.inc hw HE.out HK.out hK3 hO3 (by show 1<=40001; omega) hi);clear hO3 hK3 hat3 hR3)
      go_roundw
      case rel=>exact⟨_,i+1,n,by omega,HS.out⟩
      case measure=>
       have e1:=HS.out.rdr.rdI;have e2:=hS.rdr.rdI;rw[e1,e2];omega
     ·by_cases k4:kind=4
      ·subst k4;have HE:Hid (Yc L en pat (n+1) deep i acc=Yc L en pat n deep (i+1) (acc.app (oneT 3 text .nil))):=Zh (Ymg HX.out rfl);clear k1 k2 k3;go_wp2_with fail;refine hP.mono ?_;rintro e w1 ⟨rfl,hk1⟩;have hK:Keep (fun _=>False) wr ((w1.alloc (.cells #[.int .i64 4,.string text,.int .i64 at_] 136)).alloc (.cells #[.int .i64 3,.string text,.slice none 0 0] 223)):=(hk1.trans (Keep.of_alloc (S:=fun _=>False) _ _) (fun _ _ q=>q)).trans (Keep.of_alloc (S:=fun _=>False) _ _) (fun _ _ q=>q);have hO:=hS.own.keep (Yi _) hK (fun k q=>q.elim);have hR1:=hS.rdr.keep hK (fun k q=>q.elim);have hsz:=hS.keep.size;have hsz1:=hk1.size;have hlen:=hS.len;have hnews:=Yg7 (w1.alloc (.cells #[.int .i64 4,.string text,.int .i64 at_] 136)) (.int .i64 3) (.string text) (.slice none 0 0) 223;have hwz:(w1.alloc (.cells #[.int .i64 4,.string text,.int .i64 at_] 136)).heap.size=w1.heap.size+1:=Zs;rw[hwz] at hnews;have HO:=Zh hO;have HK:=Zh hK;have HR1:=Zh hR1;have HNW:=Zh hnews;clear hO hK hR1 hnews hwz hP;go_wp2_with (
        at_builtin;refine Jg rfl _ _ 35 rfl w.heap.size 223 3 48 YbT _ _ rfl HO.out (Yi _) (Yi (oneT 3 text .nil)) (YbQ _ _) (some ⟨w1.heap.size+1,0,none⟩) 1 1 [.int .i64 3,.string text,.slice none 0 0] rfl (Ts.flat_single _ _ (TsV.nil _ _)) rfl (fun _=>⟨_,0,rfl,HNW.out⟩) (by simp[Value.oneCell']) (by have:=hlen; have:=hfew; have:=Nat.mul_le_mul_right 40001 (show i<=40000 by omega); omega) Zo (by have:=HK.out.size; omega) ?_;intro v3 w3 hO3 hK3 hat3;have hR3:=HR1.out.keep hK3 (fun k q=>Nat.le_trans hw (hS.own.own_lt k q).1);have c2:=hR3.c2;have f2:=hR3.f2;have HS:=Zh (hS.inc hw HE.out HK.out hK3 hO3 (by show 1<=40001; omega) hi);clear hO3 hK3 hat3 hR3)
       go_roundw
       case rel=>exact⟨_,i+1,n,by omega,HS.out⟩
       case measure=>
        have e1:=HS.out.rdr.rdI;have e2:=hS.rdr.rdI;rw[e1,e2];omega
      ·by_cases k5:kind=5
       ·subst k5;have HE:Hid (Yc L en pat (n+1) deep i acc=Yc L en pat n deep (i+1) (acc.app (varT text .nil))):=Zh (Yme HX.out rfl);clear k1 k2 k3 k4;go_wp2_with fail;refine hP.mono ?_;rintro e w1 ⟨rfl,hk1⟩;obtain⟨kv,tv,hvv,hvt⟩:∃kv tv,varV text= .agg #[.int .i64 kv,.string tv,.slice none 0 0]/\varT text .nil=oneT kv tv .nil:=by
         unfold varV varT;by_cases hb:YF text=true
         ·rw[if_pos hb,if_pos hb]; exact⟨_,_,rfl,rfl⟩
         ·rw[if_neg hb,if_neg hb]; exact⟨_,_,rfl,rfl⟩
        rw[hvt] at HE;have hVV:=HV.out text (w1.alloc (.cells #[.int .i64 5,.string text,.int .i64 at_] 136)) HTS.out;rw[hvv] at hVV;clear hP hvv hvt;generalize YF text=okv at hVV;go_wp2_with fail;refine hVV.mono ?_;clear hVV;rintro e w2 ⟨rfl,hb2⟩;have hsz2:=hb2.size;simp only[World.size_alloc] at hsz2;have hK:Keep (fun _=>False) wr ((w2.alloc (.cells #[.int .i64 kv,.string tv,.slice none 0 0] 223)).alloc (.cells #[.int .i64 kv,.string tv,.slice none 0 0] 223)):=(((hk1.trans (Keep.of_alloc (S:=fun _=>False) _ _) (fun _ _ q=>q)).trans (Keep.of_below (S:=fun _=>False) hb2) (fun _ _ q=>q)).trans (Keep.of_alloc (S:=fun _=>False) _ _) (fun _ _ q=>q)).trans (Keep.of_alloc (S:=fun _=>False) _ _) (fun _ _ q=>q);have hO:=hS.own.keep (Yi _) hK (fun k q=>q.elim);have hR1:=hS.rdr.keep hK (fun k q=>q.elim);have hsz:=hS.keep.size;have hsz1:=hk1.size;have hlen:=hS.len;have hnews:=Yg7 (w2.alloc (.cells #[.int .i64 kv,.string tv,.slice none 0 0] 223)) (.int .i64 kv) (.string tv) (.slice none 0 0) 223;have hwz:(w2.alloc (.cells #[.int .i64 kv,.string tv,.slice none 0 0] 223)).heap.size=w2.heap.size+1:=Zs;rw[hwz] at hnews;have HO:=Zh hO;have HK:=Zh hK;have HR1:=Zh hR1;have HNW:=Zh hnews;clear hO hK hR1 hnews hwz hb2;go_wp2_with (
         at_builtin;refine Jg rfl _ _ 35 rfl w.heap.size 223 3 48 YbT _ _ rfl HO.out (Yi _) (Yi (oneT kv tv .nil)) (YbQ _ _) (some ⟨w2.heap.size+1,0,none⟩) 1 1 [.int .i64 kv,.string tv,.slice none 0 0] rfl (Ts.flat_single _ _ (TsV.nil _ _)) rfl (fun _=>⟨_,0,rfl,HNW.out⟩) (by simp[Value.oneCell']) (by have:=hlen; have:=hfew; have:=Nat.mul_le_mul_right 40001 (show i<=40000 by omega); omega) Zo (by have:=HK.out.size; omega) ?_;intro v3 w3 hO3 hK3 hat3;have hR3:=HR1.out.keep hK3 (fun k q=>Nat.le_trans hw (hS.own.own_lt k q).1);have c2:=hR3.c2;have f2:=hR3.f2;have HS:=Zh (hS.inc hw HE.out HK.out hK3 hO3 (by show 1<=40001; omega) hi);clear hO3 hK3 hat3 hR3)
        go_roundw
        case rel=>exact⟨_,i+1,n,by omega,HS.out⟩
        case measure=>
         have e1:=HS.out.rdr.rdI;have e2:=hS.rdr.rdI;rw[e1,e2];omega
       ·by_cases k6:kind=6
        ·subst k6;clear k1 k2 k3 k4 k5;by_cases ho:text=Yar
         ·have HTO:Hid (text=Yar\/text=JW):=Zh (.inl ho);have HTD:Hid (decide (text=JW)=false):=Zh (decide_eq_false (by rw[ho]; decide));have ht:text=⟨#[40]⟩:=ho;clear ho;subst ht;go_wp2_with fail;refine hP.mono ?_;rintro e w1 ⟨rfl,hk1⟩;have hR0:=hS.rdr.keep (hk1.trans (Keep.of_alloc (S:=fun _=>False) _ (.cells #[.int .i64 6,.string ⟨#[40]⟩,.int .i64 at_] 136)) (fun _ _ q=>q)) (fun k q=>q.elim);have hIn:=HI.out n i _ hi0 hi (by have:=hS.fuel; omega) false hR0;have hE2:=YfZ (en:=en) (pat:=pat) (n:=n) (deep:=deep) (acc:=acc) HX.out rfl HTO.out;rw[HTD.out] at hE2;have hge:∀x k,JH L en pat n false deep i= .ok x k->i<k:=fun x k q=>Ykr q;generalize JH L en pat n false deep i=N at hIn hE2 hge;have HE:=Zh hE2;have HG:=Zh hge;clear hP hE2 hge hR0;go_wp2_with fail;refine hIn.mono ?_;clear hIn;intro e w2 hP;cases N with
          |
           bad ba bc=>
           obtain⟨hK,rfl⟩:=hP;have HX2:Hid (R= .bad ba bc):=Zh (by rw[<-hS.eq]; exact HE.out);refine⟨rfl,?_⟩;rw[HX2.out];exact⟨hS.keep.trans ((keep_any (hk1.trans (Keep.of_alloc (S:=fun _=>False) _ _) (fun _ _ q=>q))).trans hK (fun _ _ q=>q)) (fun _ _ q=>q),rfl⟩
          |
           ok x k=>
           obtain⟨hK,vk,rfl,hvk,hR2⟩:=hP;obtain⟨kk,kt,kids⟩:=x;dsimp only at hvk HE;have hik:i<k:=HG.out _ _ rfl;have HE2:Hid (Yc L en pat (n+1) deep i acc=Yc L en pat n deep k (acc.app (oneT kk kt kids))):=Zh HE.out;clear HE HG;have hsz2:=hK.size;simp only[World.size_alloc] at hsz2;have hsz:=hS.keep.size;have hsz1:=hk1.size;have hlen:=hS.len;have K1:Keep (fun k=>k=rb) wr w2:=(keep_any (hk1.trans (Keep.of_alloc (S:=fun _=>False) _ _) (fun _ _ q=>q))).trans hK (fun _ _ q=>q);have hrl:=hS.rdr.low;have hO:=(hS.own.keep (Yi _) K1 (fun k q=>by omega)).below (Yi _) (below_alloc1 w2 (.cells #[.int .i64 kk,.string kt,vk] 223));have HK:=Zh (K1.trans (Keep.of_alloc (S:=fun _=>False) w2 (.cells #[.int .i64 kk,.string kt,vk] 223)) (fun _ _ q=>q.elim));have HR2:=Zh (hR2.below (below_alloc1 w2 (.cells #[.int .i64 kk,.string kt,vk] 223)));have hv3:TsV (w2.alloc (.cells #[.int .i64 kk,.string kt,vk] 223)) (fun k=>w.heap.size<=k/\u7.ownBlock≠some k) vk kids:=hvk.below (below_alloc1 w2 _) (fun k q _=>by
            have q1:(w1.alloc (.cells #[.int .i64 6,.string ⟨#[40]⟩,.int .i64 at_] 136)).heap.size<=k:=q;simp only[World.size_alloc] at q1;refine⟨by omega,fun e1=>?_⟩;have:=(hS.own.own_lt k e1).2;omega)
           obtain⟨ao2,cap2,rfl⟩:=hvk.form;have HO:=Zh hO;have HV3:=Zh hv3;have HNW:=Zh (Yg7 w2 (.int .i64 kk) (.string kt) (.slice ao2 kids.len cap2) 223);clear hO hv3 hvk K1 hK hR2;go_wp2_with (
            at_builtin;refine Jg rfl _ _ 35 rfl w.heap.size 223 3 48 YbT _ _ rfl HO.out (Yi _) (Yi (oneT kk kt kids)) (YbQ _ _) (some ⟨w2.heap.size,0,none⟩) 1 1 [.int .i64 kk,.string kt,.slice ao2 kids.len cap2] rfl (Ts.flat_single _ _ HV3.out) rfl (fun _=>⟨_,0,rfl,HNW.out⟩) (by simp[Value.oneCell']) (by have:=hlen; have:=hfew; have:=Nat.mul_le_mul_right 40001 (show i<=40000 by omega); omega) Zo (by have:=HK.out.size; omega) ?_;intro v3 w3 hO3 hK3 hat3;have HS:=Zh (hS.next hw HE2.out HK.out hK3 HR2.out hO3 (by show 1<=40001; omega) hik);clear hO3 hK3 hat3)
           go_roundw
           case rel=>exact⟨_,k,n,by omega,HS.out⟩
           case measure=>
            have e1:=HS.out.rdr.rdI;have e2:=hS.rdr.rdI;rw[e1,e2];omega
         ·by_cases hl:text=JW
          ·have HTO:Hid (text=Yar\/text=JW):=Zh (.inr hl);have HTD:Hid (decide (text=JW)=true):=Zh (decide_eq_true hl);have ht:text=⟨#[60]⟩:=hl;clear ho hl;subst ht;go_wp2_with fail;refine hP.mono ?_;rintro e w1 ⟨rfl,hk1⟩;have hR0:=hS.rdr.keep (hk1.trans (Keep.of_alloc (S:=fun _=>False) _ (.cells #[.int .i64 6,.string ⟨#[60]⟩,.int .i64 at_] 136)) (fun _ _ q=>q)) (fun k q=>q.elim);have hIn:=HI.out n i _ hi0 hi (by have:=hS.fuel; omega) true hR0;have hE2:=YfZ (en:=en) (pat:=pat) (n:=n) (deep:=deep) (acc:=acc) HX.out rfl HTO.out;rw[HTD.out] at hE2;have hge:∀x k,JH L en pat n true deep i= .ok x k->i<k:=fun x k q=>Ykr q;generalize JH L en pat n true deep i=N at hIn hE2 hge;have HE:=Zh hE2;have HG:=Zh hge;clear hP hE2 hge hR0;go_wp2_with fail;refine hIn.mono ?_;clear hIn;intro e w2 hP;cases N with
           |
            bad ba bc=>
            obtain⟨hK,rfl⟩:=hP;have HX2:Hid (R= .bad ba bc):=Zh (by rw[<-hS.eq]; exact HE.out);refine⟨rfl,?_⟩;rw[HX2.out];exact⟨hS.keep.trans ((keep_any (hk1.trans (Keep.of_alloc (S:=fun _=>False) _ _) (fun _ _ q=>q))).trans hK (fun _ _ q=>q)) (fun _ _ q=>q),rfl⟩
           |
            ok x k=>
            obtain⟨hK,vk,rfl,hvk,hR2⟩:=hP;obtain⟨kk,kt,kids⟩:=x;dsimp only at hvk HE;have hik:i<k:=HG.out _ _ rfl;have HE2:Hid (Yc L en pat (n+1) deep i acc=Yc L en pat n deep k (acc.app (oneT kk kt kids))):=Zh HE.out;clear HE HG;have hsz2:=hK.size;simp only[World.size_alloc] at hsz2;have hsz:=hS.keep.size;have hsz1:=hk1.size;have hlen:=hS.len;have K1:Keep (fun k=>k=rb) wr w2:=(keep_any (hk1.trans (Keep.of_alloc (S:=fun _=>False) _ _) (fun _ _ q=>q))).trans hK (fun _ _ q=>q);have hrl:=hS.rdr.low;have hO:=(hS.own.keep (Yi _) K1 (fun k q=>by omega)).below (Yi _) (below_alloc1 w2 (.cells #[.int .i64 kk,.string kt,vk] 223));have HK:=Zh (K1.trans (Keep.of_alloc (S:=fun _=>False) w2 (.cells #[.int .i64 kk,.string kt,vk] 223)) (fun _ _ q=>q.elim));have HR2:=Zh (hR2.below (below_alloc1 w2 (.cells #[.int .i64 kk,.string kt,vk] 223)));have hv3:TsV (w2.alloc (.cells #[.int .i64 kk,.string kt,vk] 223)) (fun k=>w.heap.size<=k/\u7.ownBlock≠some k) vk kids:=hvk.below (below_alloc1 w2 _) (fun k q _=>by
             have q1:(w1.alloc (.cells #[.int .i64 6,.string ⟨#[60]⟩,.int .i64 at_] 136)).heap.size<=k:=q;simp only[World.size_alloc] at q1;refine⟨by omega,fun e1=>?_⟩;have:=(hS.own.own_lt k e1).2;omega)
            obtain⟨ao2,cap2,rfl⟩:=hvk.form;have HO:=Zh hO;have HV3:=Zh hv3;have HNW:=Zh (Yg7 w2 (.int .i64 kk) (.string kt) (.slice ao2 kids.len cap2) 223);clear hO hv3 hvk K1 hK hR2;go_wp2_with (
             at_builtin;refine Jg rfl _ _ 35 rfl w.heap.size 223 3 48 YbT _ _ rfl HO.out (Yi _) (Yi (oneT kk kt kids)) (YbQ _ _) (some ⟨w2.heap.size,0,none⟩) 1 1 [.int .i64 kk,.string kt,.slice ao2 kids.len cap2] rfl (Ts.flat_single _ _ HV3.out) rfl (fun _=>⟨_,0,rfl,HNW.out⟩) (by simp[Value.oneCell']) (by have:=hlen; have:=hfew; have:=Nat.mul_le_mul_right 40001 (show i<=40000 by omega); omega) Zo (by have:=HK.out.size; omega) ?_;intro v3 w3 hO3 hK3 hat3;have HS:=Zh (hS.next hw HE2.out HK.out hK3 HR2.out hO3 (by show 1<=40001; omega) hik);clear hO3 hK3 hat3)
            go_roundw
            case rel=>exact⟨_,k,n,by omega,HS.out⟩
            case measure=>
             have e1:=HS.out.rdr.rdI;have e2:=hS.rdr.rdI;rw[e1,e2];omega
          ·have HE:Hid (Yc L en pat (n+1) deep i acc= .ok acc i):=Zh (YfY HX.out (show ¬(6:Int)=1 by decide) (show ¬((6:Int)=2\/(6:Int)=3) by decide) (show ¬(6:Int)=4 by decide) (show ¬(6:Int)=5 by decide) (fun _=>⟨ho,hl⟩));have s1:(text.toList==[40])=false:=by have:=Yha text ⟨#[40]⟩; rw[decide_eq_false (show ¬text=⟨#[40]⟩ from ho),show(⟨#[40]⟩:ByteArray).toList=[40] by rw[Lib.toList_data]] at this; exact this
           have s2:(text.toList==[60])=false:=by have:=Yha text ⟨#[60]⟩; rw[decide_eq_false (show ¬text=⟨#[60]⟩ from hl),show(⟨#[60]⟩:ByteArray).toList=[60] by rw[Lib.toList_data]] at this; exact this
           have s3:(text.toList != [40])=true:=by unfold bne; rw[s1]; rfl
           have s4:(text.toList != [60])=true:=by unfold bne; rw[s2]; rfl
           clear ho hl;go_wp2_with fail;refine hP.mono ?_;rintro e w1 ⟨rfl,hk1⟩;have hK:Keep (fun _=>False) wr (w1.alloc (.cells #[.int .i64 6,.string text,.int .i64 at_] 136)):=hk1.trans (Keep.of_alloc (S:=fun _=>False) _ _) (fun _ _ q=>q);have HQ:Hid (OwnR (w1.alloc (.cells #[.int .i64 6,.string text,.int .i64 at_] 136)) w.heap.size 223 3 u7 acc.len (tsF acc)):=Zh (hS.own.keep (Yi _) hK (fun k q=>q.elim));have HR1:=Zh (hS.rdr.keep hK (fun k q=>q.elim));have HK:=Zh (hS.keep.trans hK (fun _ _ q=>q.elim));have HX2:Hid (R= .ok acc i):=Zh (by rw[<-hS.eq]; exact HE.out);clear hP hK;go_wp2_with fail;go_ret;rw[HX2.out];exact⟨HK.out,_,rfl,HQ.out.tsV,HR1.out⟩
        ·have HE:Hid (Yc L en pat (n+1) deep i acc= .ok acc i):=Zh (YfY HX.out k1 (fun q=>q.elim k2 k3) k4 k5 (fun q=>absurd q k6));have b1:(kind==1)=false:=by simpa using k1
         have b2:(kind==2)=false:=by simpa using k2
         have b3:(kind==3)=false:=by simpa using k3
         have b4:(kind==4)=false:=by simpa using k4
         have b5:(kind==5)=false:=by simpa using k5
         have b6:(kind==6)=false:=by simpa using k6
         clear k1 k2 k3 k4 k5 k6;go_wp2_with fail;refine hP.mono ?_;rintro e w1 ⟨rfl,hk1⟩;have hK:Keep (fun _=>False) wr (w1.alloc (.cells #[.int .i64 kind,.string text,.int .i64 at_] 136)):=hk1.trans (Keep.of_alloc (S:=fun _=>False) _ _) (fun _ _ q=>q);have HQ:Hid (OwnR (w1.alloc (.cells #[.int .i64 kind,.string text,.int .i64 at_] 136)) w.heap.size 223 3 u7 acc.len (tsF acc)):=Zh (hS.own.keep (Yi _) hK (fun k q=>q.elim));have HR1:=Zh (hS.rdr.keep hK (fun k q=>q.elim));have HK:=Zh (hS.keep.trans hK (fun _ _ q=>q.elim));have HX2:Hid (R= .ok acc i):=Zh (by rw[<-hS.eq]; exact HE.out);clear hP hK;go_wp2_with fail;go_ret;rw[HX2.out];exact⟨HK.out,_,rfl,HQ.out.tsV,HR1.out⟩
  ·have HE:Hid (Yc L en pat (n+1) deep i acc= .ok acc i):=Zh (Ymf (List.getElem?_eq_none Zo));rw[YgS hi] at hP;go_wp2_with fail;refine hP.mono ?_;rintro e w1 ⟨rfl,hk1⟩;have hK:Keep (fun _=>False) wr (w1.alloc (.cells #[.int .i64 0,.string ⟨#[]⟩,.int .i64 0] 136)):=hk1.trans (Keep.of_alloc (S:=fun _=>False) _ _) (fun _ _ q=>q);have HQ:Hid (OwnR (w1.alloc (.cells #[.int .i64 0,.string ⟨#[]⟩,.int .i64 0] 136)) w.heap.size 223 3 u7 acc.len (tsF acc)):=Zh (hS.own.keep (Yi _) hK (fun k q=>q.elim));have HR1:=Zh (hS.rdr.keep hK (fun k q=>q.elim));have HK:=Zh (hS.keep.trans hK (fun _ _ q=>q.elim));have HX2:Hid (R= .ok acc i):=Zh (by rw[<-hS.eq]; exact HE.out);clear hP hK;go_wp2_with fail;go_ret;rw[HX2.out];exact⟨HK.out,_,rfl,HQ.out.tsV,HR1.out⟩
theorem YhI (hV:J3)(B rb:Nat)(ao:Option Addr)(cap:Nat)(L:List Tk)(en:Nat)(pat:Bool):∀(m i n deep:Nat) (w:World),L.length - i<=m->L.length - i<n->deep<=100->Yp B w rb ao cap L en i->
 Calls Tryz.prog 138 #[.pointer (some ⟨rb,0,none⟩),.bool pat,.int .i64 deep] w (Ydo B rb ao cap L en w (Yc L en pat n deep i .nil))
 |0,i,n,deep,w,hm,hn,hd,h=>Yf0 hV B rb ao cap L en pat deep i n w h hd hn (fun n j w' h1 h2 h3 call h4=>by omega)
 |m+1,i,n,deep,w,hm,hn,hd,h=>Yf0 hV B rb ao cap L en pat deep i n w h hd hn (fun n j w' h1 h2 h3 call h4=>by
   refine Yo3 B rb ao cap L en pat call deep j n w' h4 h2 hd (fun hd2 q w2 hq hr=>?_);exact YhI hV B rb ao cap L en pat m q n (deep+1) w2 Zo Zo Zo hr)
def limB (s:ByteArray):ByteArray×Int:=if 40000<s.size then (⟨#[]⟩,7) else (s,0)
theorem Yjl (s:ByteArray)(w:World):
 Calls Tryz.prog 60 #[.string s] w fun e w'=>e= .returned (.tuple #[.string (limB s).1,.int .i64 (limB s).2])/\w'=w:=by
 unfold limB;by_cases h:40000<s.size
 ·have l0:decide ((40000:Int)<(s.size:Int))=true:=Zt;rw[if_pos h];go_enter Tryz.func60,Tryz.ntmps60;go_wp2;go_ret2
  exact⟨rfl,rfl⟩
 ·have l0:decide ((40000:Int)<(s.size:Int))=false:=Zf;rw[if_neg h];go_enter Tryz.func60,Tryz.ntmps60;go_wp2;go_ret2
  exact⟨rfl,rfl⟩
def Ts.run:Ts->Nat
 |.nil=>0
 |.cons k _ _ rest=>if k=1 then rest.run+1 else 0
theorem Ts.run_le:∀l:Ts,l.run<=l.len
 |.nil=>Nat.le_refl _
 |
  .cons k _ _ rest=>by
  have:=Ts.run_le rest;simp only[Ts.run,Ts.len];split<;>omega
structure RunS (S:Nat->Prop)(T:Ts)(ao:Option Addr)(w:World)(k:Nat)(rest:Ts):Prop where
 len:k+rest.len=T.len
 tail:rest≠.nil->∃g o,ao=some ⟨g,o,none⟩/\S g/\rest.at w S g (o+k*3)
 run:k+rest.run=T.run
theorem YoI (S:Nat->Prop)(T:Ts)(v:Value)(w:World)(hT:TsV w S v T)(hbig:T.len<=1000000000000):
 Calls Tryz.prog 199 #[v] w fun e w'=>e= .returned (.int .i64 T.run)/\w'=w:=by
 obtain⟨ao,cap,rfl,htail⟩:=hT;go_enter Tryz.func199,Tryz.ntmps199;go_wp2;go_loopw [3] (fun i wr=>wr=w/\∃(k:Nat) (rest:Ts),i= .int .i64 k/\RunS S T ao w k rest) (fun i _=>T.len - (intOf i).toNat)
 case atStart=>exact⟨rfl,0,T,rfl,Nat.zero_add _,TsV.tail0 htail,Nat.zero_add _⟩
 case round=>
  obtain⟨rfl,k,rest,rfl,hS⟩:=hrel;clear htail;have hR:=hS.run;cases rest with
  |
   nil=>
   have hk:k=T.len:=by have:=hS.len; simpa[Ts.len] using this
   have l0:decide ((k:Int)<(T.len:Int))=false:=Zf;have l1:decide (k<T.len)=false:=Zf;have HD:Hid (k=T.run):=Zh (by simpa[Ts.run] using hR);clear hk hR;go_wp2;go_ret;exact⟨retI (by rw[HD.out]),rfl⟩
  |
   cons kk tt kids rest=>
   have hkl:=hS.len;simp only[Ts.len] at hkl;simp only[Ts.run] at hR;have l0:decide ((k:Int)<(T.len:Int))=true:=Zt;have l1:decide (k<T.len)=true:=Zt;obtain⟨g,o,rfl,hSg,c0,c1,c2,hrest⟩:=hS.tail (fun q=>by cases q);have HRE:=Zh hrest;have HC2:=Zh c2;clear hrest c2;by_cases h1:kk=1
   ·subst h1;rw[if_pos rfl] at hR;have HN:=Zh hR;have HL:=Zh hkl;have wk:IntKind.i64.wrap ((k:Int)+1)=k+1:=IntWalk.i64_in _ Zo;clear hR;go_wp2;go_roundw
    case rel=>exact⟨trivial,k+1,rest,by go_num,⟨by have:=HL.out; omega,fun _=>⟨g,o,rfl,hSg,by have:=HRE.out; rw[show o+(k+1)*3=o+k*3+3 by omega]; exact this⟩,by have:=HN.out; omega⟩⟩
    case measure=>simp[intOf]; omega
   ·have l2:(kk==1)=false:=by simpa using h1
    rw[if_neg h1] at hR;have HD:Hid (k=T.run):=Zh (by simpa using hR);clear hR;go_wp2;go_ret;exact⟨retI (by rw[HD.out]),rfl⟩
end Go.Proofs.YteamjdmhdfjopaaGreatDoor
