/- A part of the proof; it holds the texts Take Stp Wd (names and blanks shortened). -/
import Derived.Test.YteamjdmhdfjopaaGreatDoorC20
import Derived.Test.YteamjdmhdfjopaaGreatDoorC1
import Derived.Lib.ConvBytes
import Derived.Laws.IdiomStrings
import Derived.Test.YteamjdmhdfjopaaGreatDoorC9
namespace Go.Proofs.YteamjdmhdfjopaaGreatDoor
open Go.RowKit
set_option maxRecDepth 100000
set_option maxHeartbeats 8000000
set_option linter.unusedVariables false
set_option linter.unusedSimpArgs false
set_option linter.unnecessarySimpa false
theorem Ymi {x y z:Value}:(Tryz.prog.info? 136).map (·.size)=some (#[x,y,z]:Array Value).size:=by
 show _=some 3;kernel_rfl
theorem Ymj (w:World)(g:Nat)(a c b a' c' b':Value)(h:w.heap[g]? =some (.cells #[a,b,c] 136 (0,0))):
 (((w.setCell ⟨g,0,none⟩ a').setCell ⟨g,1,none⟩ b').setCell ⟨g,2,none⟩ c').heap[g]? =some (.cells #[a',b',c'] 136 (0,0)):=by
 have h1:=heap_setCell_same w g 0 _ _ a' h;have h2:=heap_setCell_same _ g 1 _ _ b' h1;have h3:=heap_setCell_same _ g 2 _ _ c' h2;rw[h3]; simp
theorem YhK (w:World)(g:Nat)(a b c:Value):
 Keep (fun k=>k=g) w (((w.setCell ⟨g,0,none⟩ a).setCell ⟨g,1,none⟩ b).setCell ⟨g,2,none⟩ c).drew:=
 (((Keep.of_setCell w ⟨g,0,none⟩ a).trans (Keep.of_setCell _ ⟨g,1,none⟩ b) (fun _ _ e=>e)).trans (Keep.of_setCell _ ⟨g,2,none⟩ c) (fun _ _ e=>e)).trans (Keep.of_drewN (S:=fun _=>False) _ 1) (fun _ _ q=>False.elim q)
theorem take_any (B b p q:Nat)(s:ByteArray)(at_ fr fin:Nat)(kind:Int)(sp:List (Nat×Nat))(v:Value)(w:World)(_hs:s.size<=40000)(hw:Yk B b s at_ sp v w)
 (hp:w.heap[p]? =some (.cells #[.pointer (some ⟨b,0,none⟩)] 123 (0,0)))(hq:w.heap[q]? =some (.cells #[.int .i64 fr] 3 (0,0)))(h1:fr<=fin)(h2:fin<=s.size)(h3:at_<=fin):
 Calls Tryz.prog 209 #[.int .i64 kind,.int .i64 fin,.pointer (some ⟨p,0,none⟩),.pointer (some ⟨q,0,none⟩)] w fun e w'=>
  e= .returned (.agg #[.int .i64 kind,.string (s.extract fr fin),.int .i64 fr])/\Yk B b s fin sp v w'/\Keep (fun k=>k=b) w w':=by
 clear _hs;have hc0:=hw.row.c0;have hc1:=hw.row.c1;have hf1:=hw.row.frozen 1;have hbs:=hw.row.lt;have hpl:p<w.heap.size:=by obtain⟨h,_⟩:=Zg hp; exact h
 have hql:q<w.heap.size:=by obtain⟨h,_⟩:=Zg hq; exact h
 have hpb:p≠b:=by
  rintro rfl;obtain⟨d,hd,hn,_⟩:=hw.row;rw[hp] at hd; cases hd
 have hqb:q≠b:=by
  rintro rfl;obtain⟨d,hd,hn,_⟩:=hw.row;rw[hq] at hd; cases hd
 have cp:w.cell? ⟨p,0,none⟩=some (.pointer (some ⟨b,0,none⟩)):=by simp[World.cell?,hp]
 have cq:w.cell? ⟨q,0,none⟩=some (.int .i64 fr):=by simp[World.cell?,hq]
 have i1:(0:Int)<=fr:=Zo;have i2:(fr:Int)<=fin:=Zo;have i3:(fin:Int)<=s.size:=Zo;clear hp hq;go_enter Tryz.func209,Tryz.ntmps209;go_wp2_with (fail);have hA2:=hw.set1 fin h2 h3;have hK2:Keep (fun k=>k=b) w (w.setCell ⟨b,1,none⟩ (.int .i64 fin)):=Keep.of_setCell w ⟨b,1,none⟩ _;have hsz:(w.setCell ⟨b,1,none⟩ (.int .i64 fin)).heap.size=w.heap.size:=Zs;have hp2:(w.setCell ⟨b,1,none⟩ (.int .i64 fin)).cell? ⟨p,0,none⟩=_:=(hK2.cell (p:=⟨p,0,none⟩) hpl hpb).trans cp;have hq2:(w.setCell ⟨b,1,none⟩ (.int .i64 fin)).cell? ⟨q,0,none⟩=_:=(hK2.cell (p:=⟨q,0,none⟩) hql hqb).trans cq;generalize w.setCell ⟨b,1,none⟩ (.int .i64 fin)=W at hA2 hK2 hsz hp2 hq2⊢;have hA3:Yk B b s fin sp v (W.alloc (.cells #[.int .i64 0,.string ⟨#[]⟩,.int .i64 0] 136)):=
  ⟨World.rowIs.alloc hA2.row _,(Keep.of_alloc (S:=fun _=>False) W _).owns hA2.own (fun _ _ q=>q),hA2.le,hA2.few⟩
 have hT:=heap_alloc_new W (.cells #[.int .i64 0,.string ⟨#[]⟩,.int .i64 0] 136);have hp3:=(World.cell?_alloc_lt W (.cells #[.int .i64 0,.string ⟨#[]⟩,.int .i64 0] 136) ⟨p,0,none⟩ (by show p<_; omega)).trans hp2;have hq3:=(World.cell?_alloc_lt W (.cells #[.int .i64 0,.string ⟨#[]⟩,.int .i64 0] 136) ⟨q,0,none⟩ (by show q<_; omega)).trans hq2;have hK3:Keep (fun k=>k=b) w (W.alloc (.cells #[.int .i64 0,.string ⟨#[]⟩,.int .i64 0] 136)):=hK2.trans (Keep.of_alloc (S:=fun _=>False) W _) (fun _ _ q=>False.elim q);rw[hsz] at hT;generalize W.alloc (.cells #[.int .i64 0,.string ⟨#[]⟩,.int .i64 0] 136)=W5 at hA3 hT hp3 hq3 hK3⊢;have t0:W5.cell? ⟨w.heap.size,0,none⟩=some (.int .i64 0):=by simp[World.cell?,hT]
 have t1:W5.cell? ⟨w.heap.size,1,none⟩=some (.string ⟨#[]⟩):=by simp[World.cell?,hT]
 have t2:W5.cell? ⟨w.heap.size,2,none⟩=some (.int .i64 0):=by simp[World.cell?,hT]
 have tf:∀j,W5.frozen? ⟨w.heap.size,j,none⟩=false:=fun j=>by simp[World.frozen?,hT]
 have f0:=tf 0;have f1:=tf 1;have f2:=tf 2;have hc0:=hA3.row.c0;have HT:=Zh hT;clear hT tf hsz hc1 hf1 cp cq hp2 hq2;go_region
 all_goals go_wp2
 have HT:=HT.out;have E:=Ymj W5 w.heap.size (.int .i64 0) (.int .i64 0) (.string ⟨#[]⟩) (.int .i64 kind) (.int .i64 fr) (.string (s.extract fr fin)) HT;have hvl:∀k,v.ownBlock=some k->k<w.heap.size:=fun k e=>by
  obtain⟨c,hc⟩:=Yr hw.own e;obtain⟨h,_⟩:=Zg hc;exact h
 have hK:∀u:World,Keep (fun k=>k=w.heap.size) W5 u->Yk B b s fin sp v u/\Keep (fun k=>k=b) w u:=fun u hu=>
  ⟨⟨hu.row hA3.row Zo,hu.owns hA3.own (fun k e q=>by have:=hvl k e; omega),hA3.le,hA3.few⟩,hK3.trans hu (fun i hi e=>by omega)⟩
 refine bodyPost_ret (v:=.agg #[.int .i64 kind,.string (s.extract fr fin),.int .i64 fr]) ?_ rfl ?_
 ·exact results_cell_row rfl _ _ w.heap.size 136 _ (0,0) _ rfl E Tryz.underlying136 rfl Ymi
 ·exact⟨rfl,hK _ (YhK W5 _ _ _ _)⟩
theorem YfR (s:ByteArray):∀(n i:Nat) (sp:List (Nat×Nat)) (acc l:List Tk) (sp':List (Nat×Nat)),i<=s.size->(∀p∈sp,p.2<=s.size)->Jd s n i sp acc= .ok l sp'->∀p∈sp',p.2<=s.size
 |0,i,sp,acc,l,sp',_,h0,h=>by simp only[Jd,Ydr.ok.injEq] at h; rw[<-h.2]; exact h0
 |
  n+1,i,sp,acc,l,sp',hi,h0,h=>by
  unfold Jd at h;split at h
  ·cases h
  ·rename_i j sp1 hs
   have hj:=JK s _ _ _ _ _ hi hs;obtain⟨q,hq,hall,_,_⟩:=YaL s _ _ _ _ _ hi Zo hs;have h1:∀p∈sp1,p.2<=s.size:=fun p hp=>by
    rw[hq] at hp;rcases List.mem_append.1 hp with hp | hp
    ·exact h0 p hp
    ·have:=(hall p hp).2; omega
   split at h
   ·cases h; exact h1
   ·split at h
    ·cases h
    ·rename_i kind text fin ht
     have hf:=Ycx Zo ht;exact YfR s n _ _ _ _ _ hf.2 h1 h
theorem Yli {s:ByteArray}{l:List Tk}{sp:List (Nat×Nat)}(h:Jr s= .ok l sp):∀p∈sp,p.2<=s.size:=by
 unfold Jr at h;split at h
 ·cases h
 ·exact YfR s _ _ _ _ _ _ (Nat.zero_le _) Zs h
structure YaW (o:Nat)(f:Nat->UInt8)(n:Nat)(W:World):Prop where
 cell:∀x,x<n->W.cell? ⟨o,x,none⟩=some (.int .u8 (f x).toNat)
 free:∀x,x<n->W.frozen? ⟨o,x,none⟩=false
theorem YaW.alloc {o n:Nat}{f:Nat->UInt8}{W:World}(h:YaW o f n W)(ho:o<W.heap.size)(b:Obj):YaW o f n (W.alloc b):=
 ⟨fun x hx=>(World.cell?_alloc_lt W b ⟨o,x,none⟩ ho).trans (h.cell x hx),fun x hx=>(World.frozen?_of_block (w:=W) (Below.heap_alloc W b o ho)).trans (h.free x hx)⟩
theorem YaW.put {o n:Nat}{f g:Nat->UInt8}{W:World}(h:YaW o f n W)(i:Nat)(hi:i<n)(c:UInt8)(hg:∀x,x<n->g x=if x=i then c else f x)(v:Value)(hv:v= .int .u8 c.toNat):YaW o g n (W.setCell ⟨o,i,none⟩ v):=by
 subst hv;refine⟨fun x hx=>?_,fun x hx=>?_⟩
 ·rw[hg x hx];by_cases e:x=i
  ·subst e;rw[if_pos rfl];exact World.cell?_setCell_same _ _ _ (h.cell x hx)
  ·rw[if_neg e];exact(World.cell?_setCell_other _ _ _ _ (by intro q; cases q; exact e rfl)).trans (h.cell x hx)
 ·rw[World.frozen?_setCell]; exact h.free x hx
theorem YaW.congr {o n:Nat}{f g:Nat->UInt8}{W:World}(h:YaW o f n W)(hg:∀x,x<n->g x=f x):YaW o g n W:=
 ⟨fun x hx=>by rw[hg x hx]; exact h.cell x hx,h.free⟩
theorem Ycg (s:ByteArray)(q:List (Nat×Nat))(a i x:Nat):blank s (q++[(a,i)]) x=if (inSp q x||(decide (a<=x)&&decide (x<i)))&&bu s x != 10 then 32 else bu s x:=by
 have e:inSp [(a,i)] x=(decide (a<=x)&&decide (x<i)):=by simp[inSp]
 unfold blank; rw[YaS,e]
theorem YjG (s:ByteArray)(q:List (Nat×Nat))(a x:Nat):blank s (q++[(a,a)]) x=blank s q x:=by
 rw[Ycg]; unfold blank;have:(decide (a<=x)&&decide (x<a))=false:=Zs;rw[this,Bool.or_false]
theorem Ygy (s:ByteArray)(q:List (Nat×Nat)){a i x:Nat}(ha:a<=i):blank s (q++[(a,i+1)]) x=if x=i then (if bu s i=10 then 10 else 32) else blank s (q++[(a,i)]) x:=by
 rw[Ycg,Ycg];by_cases e:x=i
 ·subst e;rw[if_pos rfl];have:(decide (a<=x)&&decide (x<x+1))=true:=by simp[ha]
  rw[this,Bool.or_true,Bool.true_and];by_cases h:bu s x=10<;>simp[h]
 ·rw[if_neg e];have:(decide (a<=x)&&decide (x<i+1))=(decide (a<=x)&&decide (x<i)):=by
   rw[Bool.eq_iff_iff]; simp; omega
  rw[this]
theorem YkL (s:ByteArray)(q:List (Nat×Nat))(x:Nat):blank s q x=10↔bu s x=10:=by
 unfold blank;by_cases h:bu s x=10
 ·simp[h]
 ·cases inSp q x<;>simp[h]
def Ypt (s:ByteArray)(w:World)(R:Ydr)(e:Ending)(W':World):Prop:=
 Below w.heap.size w W'/\match R with
 |.bad c x=>e= .returned (.tuple #[.string ⟨#[]⟩,.int .i64 x,.int .i64 c])
 |.ok _ sp=>e= .returned (.tuple #[.string (YT s sp),.int .i64 0,.int .i64 0])
theorem Yot {s:ByteArray}{i x:Nat}{c:Int}(h:tokN s i= .bad c x):¬c=0:=by
 have hn:∀{k:Int} {a b:Nat},near s k a b= .bad c x->¬c=0:=fun h=>by
  unfold near at h; split at h
  ·cases h; decide
  ·cases h
 unfold tokN at h;split at h
 ·unfold quoR at h;split at h
  ·cases h; decide
  ·split at h
   ·cases h
   ·split at h
    ·cases h; decide
    ·cases h
 ·split at h
  ·cases h
  ·split at h
   ·split at h
    ·cases h; decide
    ·exact hn h
   ·split at h
    ·split at h
     ·cases h; decide
     ·exact hn h
    ·split at h
     ·split at h
      ·exact hn h
      ·cases h; decide
     ·split at h
      ·generalize(if cls (bt s (i+1)).toNat=2 then Yf s (inner Yj) (i+1) else i+1)=E at h;split at h
       ·exact hn h
       ·cases h; decide
      ·cases h; decide
theorem YhC (s:ByteArray):∀(n i:Nat) (sp:List (Nat×Nat)) (acc:List Tk) (c:Int) (x:Nat),Jd s n i sp acc= .bad c x->¬c=0
 |0,i,sp,acc,c,x,h=>by simp[Jd] at h
 |
  n+1,i,sp,acc,c,x,h=>by
  unfold Jd at h;split at h
  ·cases h; decide
  ·split at h
   ·cases h
   ·split at h
    ·rename_i ht; cases h; exact Yot ht
    ·exact YhC s n _ _ _ _ _ h
theorem YeR {s:ByteArray}{c:Int}{x:Nat}(h:Jr s= .bad c x):¬c=0:=by
 unfold Jr at h;split at h
 ·cases h; decide
 ·exact YhC s _ _ _ _ _ _ h
theorem sp_at (sp:List (Nat×Nat))(k:Nat)(h:k<sp.length):(YaK sp)[k*2]? =some (.int .i64 sp[k].1)/\(YaK sp)[k*2+1]? =some (.int .i64 sp[k].2):=by
 induction sp generalizing k with
 |nil=>simp at h
 |
  cons x l ih=>
  cases k with
  |zero=>simp[YaK]
  |
   succ k=>
   obtain⟨a,b⟩:=ih k (by simpa using h);simp only[YaK,List.flatMap_cons] at a b⊢;refine⟨?_,?_⟩
   ·rw[show(k+1)*2=k*2+2 by omega]; simpa using a
   ·rw[show(k+1)*2+1=k*2+1+2 by omega]; simpa using b
theorem open_bytes (s:ByteArray)(w:World):∃cap W,(convert 9 129 (.string s)).run Tryz.prog w= .ok (.slice (some ⟨w.heap.size,0,none⟩) s.size cap) W/\YaW w.heap.size (bu s) s.size W/\Below w.heap.size w W/\w.heap.size<W.heap.size:=by
 refine⟨_,_,Lib.run_convert_string_bytes (P:=Tryz.prog) w 9 129 5 s (u:=.string) (by kernel_rfl) (by kernel_rfl) (by kernel_rfl),⟨fun x hx=>?_,fun x hx=>?_⟩,⟨rfl,rfl,rfl,by rw[Lib.bytesWorld_size]; omega,fun k hk=>Lib.bytesWorld_at_old w _ s k hk⟩,by rw[Lib.bytesWorld_size]; omega⟩
 ·rw[Lib.bytesWorld_cell w _ s x hx];have:s.data.toList.getD x 0=bu s x:=by
   unfold bu;rw[dif_pos hx];have:x<s.data.toList.length:=by rw[Array.length_toList]; exact hx
   rw[List.getD,List.getElem?_eq_getElem this,Option.getD_some,Array.getElem_toList]; rfl
  rw[this]
 ·have:=Lib.bytesWorld_at_new w 5 s;have hz:(Lib.bytesCells w 5 s).size≥s.size:=by
   unfold Lib.bytesCells;rw[Array.size_append,Array.size_map];show s.data.size+_≥s.data.size;omega
  simp[World.frozen?,this]; omega
theorem Yfr (t:ByteArray)(o cap:Nat)(W:World)(h:YaW o (bu t) t.size W):(convert 129 9 (.slice (some ⟨o,0,none⟩) t.size cap)).run Tryz.prog W= .ok (.string t) W:=by
 have hl:t.data.toList.length=t.size:=Array.length_toList;have:=run_convert_bytes_back (P:=Tryz.prog) W 129 9 5 ⟨o,0,none⟩ cap t.data.toList (by kernel_rfl) (by kernel_rfl) (by kernel_rfl) (fun j hj=>by
  have hj':j<t.size:=Zo;have e:=h.cell j hj';unfold bu at e;rw[dif_pos hj'] at e;rw[Array.getElem_toList];rw[Addr.add_lit,Nat.zero_add];exact e)
 rw[hl] at this;simpa using this
theorem YlG (s:ByteArray)(q:List (Nat×Nat)){a e i:Nat}(_h1:a<=i)(h2:i<=e\/i=a)(h3:¬i<e)(x:Nat):blank s (q++[(a,e)]) x=blank s (q++[(a,i)]) x:=by
 rw[Ycg,Ycg];have:(decide (a<=x)&&decide (x<e))=(decide (a<=x)&&decide (x<i)):=by
  rw[Bool.eq_iff_iff]; simp; omega
 rw[this]
theorem YnW (s:ByteArray)(x:Nat):blank s [] x=bu s x:=by simp[blank,inSp]
theorem YlR (c:Int)(w:World):
 Calls Tryz.prog 216 #[.int .u8 c] w fun e w'=>e= .returned (.bool (!JB c))/\w'=w:=by
 have hs:(!JB c)=(decide (c<32)||decide (126<c)):=by
  unfold JB;rw[Bool.eq_iff_iff];simp only[Bool.not_eq_true',Bool.and_eq_false_iff,decide_eq_false_iff_not,Bool.or_eq_true,decide_eq_true_eq];omega
 rw[hs];go_enter Tryz.func216,Tryz.ntmps216;go_wp2;all_goals go_ret
 all_goals (refine⟨?_,rfl⟩; simp_all)
theorem Yhs (s:ByteArray)(o cap:Nat)(w:World)(hO:YaW o (bu s) s.size w)(hs:s.size<=1000000):
 Calls Tryz.prog 238 #[.slice (some ⟨o,0,none⟩) s.size cap,.func (.func 216) #[] #[]] w fun e w'=>(∃r:Int,e= .returned (.int .i64 r)/\decide (0<=r)=!decide (Yf s JB 0=s.size))/\w'=w:=by
 have HO:=Zh hO;clear hO;go_enter Tryz.func238,Tryz.ntmps238;go_wp2;go_loopw [8] (fun i wr=>∃k:Nat,k<=s.size/\i= .int .i64 k/\wr=w/\Hid (∀j,j<k->JB (bt s j)=true)) (fun i _=>s.size - (intOf i).toNat)
 case atStart=>exact⟨0,Nat.zero_le _,rfl,rfl,Zh fun j hj=>by omega⟩
 case round=>
  obtain⟨k,hk,rfl,rfl,HK⟩:=hrel;by_cases hkl:k<s.size
  ·have l1:decide ((k:Int)<(s.size:Int))=true:=Zt;have wk:IntKind.i64.wrap ((k:Int)+1)=k+1:=IntWalk.i64_in _ Zo;have hc:=HO.out.cell k hkl;rw[<-YaE] at hc;have hF:=fun w=>YlR (bt s k) w;by_cases hi:JB (bt s k)=true
   ·have HI:=Zh hi;rw[hi] at hF;clear hi;go_wp2_with (go_at_call 216; refine(hF _).mono ?_; rintro e w' ⟨rfl,rfl⟩);go_roundw
    case rel=>exact⟨k+1,by omega,by go_num,by trivial,Zh fun j hj=>by
     by_cases e:j=k
     ·rw[e]; exact HI.out
     ·exact HK.out j Zo⟩
    case measure=>simp[intOf]; omega
   ·have hi2:JB (bt s k)=false:=by simpa using hi
    have HF:Hid (decide (Yf s JB 0=s.size)=false):=Zh (YmD (Nat.zero_le k) hkl hi2);rw[hi2] at hF;clear hi hi2;go_wp2_with (go_at_call 216; refine(hF _).mono ?_; rintro e w' ⟨rfl,rfl⟩);go_ret;exact⟨⟨_,rfl,by rw[HF.out]; exact Zt⟩,rfl⟩
  ·have l1:decide ((k:Int)<(s.size:Int))=false:=Zf;have HF:Hid (decide (Yf s JB 0=s.size)=true):=Zh (YmB (Nat.zero_le _) (fun j h1 h2=>HK.out j Zo));go_wp2;go_ret;exact⟨⟨_,rfl,by rw[HF.out]; rfl⟩,rfl⟩
theorem Yek (s:ByteArray)(o cap:Nat)(w:World)(hO:YaW o (bu s) s.size w)(hs:s.size<=1000000):
 Calls Tryz.prog 215 #[.slice (some ⟨o,0,none⟩) s.size cap,.func (.func 216) #[] #[]] w fun e w'=>e= .returned (.bool (!decide (Yf s JB 0=s.size)))/\w'=w:=by
 have hI:=Yhs s o cap w hO hs;go_enter Tryz.func215,Tryz.ntmps215;go_wp2_with fail;refine hI.mono ?_;rintro e w1 ⟨⟨r,rfl,hr⟩,rfl⟩;clear hI;go_wp2;go_ret;exact⟨by rw[<-hr]; rfl,rfl⟩
theorem YlL (s:ByteArray)(w:World):
 Calls Tryz.prog 171 #[.string s] w fun e w'=>e= .returned (.bool (YY s))/\Below w.heap.size w w':=by
 by_cases h0:s.size=0
 ·obtain rfl:s=ByteArray.empty:=by simpa using h0
  go_enter Tryz.func171,Tryz.ntmps171;go_wp2;go_ret;exact⟨by unfold YY; rfl,Below.refl _ _⟩
 have hl:¬s.toList=[]:=YaJ h0;have hl2:s.toList.isEmpty=false:=by simpa using hl
 by_cases h1:s.size<=60
 ·have g1:decide ((s.size:Int)<=60)=true:=Zt;obtain⟨cap,W,hcv,hO,hb,hz⟩:=open_bytes s w;go_enter Tryz.func171,Tryz.ntmps171;go_wp2_with fail;refine(Yek s w.heap.size cap W hO Zo).mono ?_;rintro e w1 ⟨rfl,rfl⟩;go_wp2;go_ret;exact⟨by unfold YY; rw[decide_eq_true h0,decide_eq_true h1]; simp,hb⟩
 ·have g1:decide ((s.size:Int)<=60)=false:=Zf;go_enter Tryz.func171,Tryz.ntmps171;go_wp2;go_ret;exact⟨by unfold YY; rw[decide_eq_false h1]; simp,Below.refl _ _⟩
end Go.Proofs.YteamjdmhdfjopaaGreatDoor
