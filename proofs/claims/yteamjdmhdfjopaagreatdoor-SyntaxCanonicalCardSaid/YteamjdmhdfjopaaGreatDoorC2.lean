/- A part of the proof; it holds the texts Wx Fra (names and blanks shortened). -/
import Derived.WalkKit
import Derived.WalkSpells
import Derived.WalkLawsBesides
import Derived.Lib.Hide
import Derived.IntWalk
import Derived.BigQuiet
import Derived.Deep.QuietTactic
import Derived.Deep.OwnRows
import Derived.Laws.Rows
import Derived.Outline
import Derived.Deep.RegionHeld3
import Derived.Deep.AppendLies
import Derived.Deep.RegionLaw
import Derived.StillTailTactics
import Derived.Deep.DrawnRows
import Derived.Maps.RangeWalk
import Derived.Maps.RangeRun
import Derived.Test.YteamjdmhdfjopaaGreatDoorC1
namespace Go.Proofs.YteamjdmhdfjopaaGreatDoor
open Go.RowKit
set_option maxRecDepth 100000
set_option maxHeartbeats 8000000
set_option linter.unusedVariables false
set_option linter.unusedSimpArgs false
theorem Yjd {P:Program}{t:TypeId}{z:Array Value}(hz:∀w,(zeroValue t).run P w= .ok (.agg z) w)(w:World)(old:Value):
 (Instr.alloc t true old).run P w= .ok (.pointer (some ⟨w.heap.size,0,none⟩)) (w.alloc (.cells z t)):=by
 simp[Instr.alloc,Sem.run_bind,hz w,newVar,Value.cells,go_sem]
theorem Ycv {P:Program}{ops:Array Oper}{rest:List Oper}{o:Oper}{a:Act}{w:World}{Q:Exit->Act->World->Prop}(hgd:o.guard=none)(t:TypeId)(ho:o.op= .alloc t)
 (z:Array Value)(hz:∀w,(zeroValue t).run P w= .ok (.agg z) w)
 (h:wpList P ops Q rest (a.put o.dst (.pointer (some ⟨w.heap.size,0,none⟩))) (w.alloc (.cells z t))):wpList P ops Q (o::rest) a w:=
 wpList_plain hgd fun K hK=>by
  unfold Oper.wp execOp;simp only[ho,Sem.run_bind,Yjd hz,Result.andThen_ok,Sem.run_pure];exact hK _ _ h
theorem YbO {P:Program}{ops:Array Oper}{rest:List Oper}{o:Oper}{a:Act}{w:World}{Q:Exit->Act->World->Prop}(hgd:o.guard=none)(t:TypeId)(parts:Array (Nat×Operand))(ho:o.op= .build t parts)
 (vals:List (Nat×Value))(hv:(parts.map fun(i,x)=>(i,a.eval x)).toList=vals)(cells:Array Value)(hb:P.built t vals=some cells)
 (h:wpList P ops Q rest (a.put o.dst (.agg cells)) w):wpList P ops Q (o::rest) a w:=by
 subst hv;refine wpList_build hgd t parts ho (by rw[hb]; rfl) ?_;rw[hb];exact h
theorem YhS (w:World)(old cells:Array Value)(t:TypeId):(w.alloc (.cells old t)).setRow w.heap.size cells=w.alloc (.cells cells t):=by
 simp only[World.setRow,World.alloc];congr 1
 apply Array.ext
 ·simp
 ·intro i h1 h2;simp only[Array.getElem_modify,Array.getElem_push];by_cases h:w.heap.size=i
  ·subst h; simp
  ·have hi:i<w.heap.size:=by simp at h1; omega
   simp[h,hi]
theorem Yed {P:Program}{ops:Array Oper}{rest:List Oper}{o:Oper}{a:Act}{w:World}{Q:Exit->Act->World->Prop}(hgd:o.guard=none)(ty:TypeId)(x y:Operand)(ho:o.op= .store ty x y)
 (cells:Array Value)(t:TypeId)(old:Array Value)(hx:a.eval x= .pointer (some ⟨w.heap.size,0,none⟩))(hy:a.eval y= .agg cells)(hi:(P.info? ty).map (·.size)=some cells.size)
 (hold:old.size=cells.size)(h1:cells.all (·.oneCell')=true)
 (h:wpList P ops Q rest (a.put o.dst undef) (w.alloc (.cells cells t))):wpList P ops Q (o::rest) a (w.alloc (.cells old t)):=by
 refine wpList_store_row hgd ty x y ho w.heap.size cells hx hy t old (heap_alloc_new _ _) hi hold h1 ?_;rw[YhS];exact h
theorem eval_put_same (a:Act)(d:Nat)(v:Value)(h:d<a.tmps.size):(a.put (some d) v).eval (.tmp d)=v:=by
 simp[Act.put,Act.eval,h]
theorem YfJ (a:Act)(d e:Nat)(v:Value)(h:d≠e):(a.put (some d) v).eval (.tmp e)=a.eval (.tmp e):=by
 simp[Act.put,Act.eval,h]
theorem size_put (a:Act)(d:Option Nat)(v:Value):(a.put d v).tmps.size=a.tmps.size:=by
 cases d<;>simp[Act.put]
theorem Ycu {P:Program}{ops:Array Oper}{rest:List Oper}{o1 o2 o3:Oper}{a:Act}{w:World}{Q:Exit->Act->World->Prop}(t:TypeId)(parts:Array (Nat×Operand))(d1 d2:Nat)
 (h1:o1.op= .build t parts/\o1.dst=some d1/\o1.guard=none)(h2:o2.op= .alloc t/\o2.dst=some d2/\o2.guard=none)(h3:o3.op= .store t (.tmp d2) (.tmp d1)/\o3.dst=none/\o3.guard=none)
 (hd:d1≠d2)(hs1:d1<a.tmps.size)(hs2:d2<a.tmps.size)
 (vals:List (Nat×Value))(hv:(parts.map fun(i,x)=>(i,a.eval x)).toList=vals)(cells:Array Value)(hb:P.built t vals=some cells)
 (z:Array Value)(hz:∀w,(zeroValue t).run P w= .ok (.agg z) w)(hi:(P.info? t).map (·.size)=some cells.size)(hold:z.size=cells.size)(hc:cells.all (·.oneCell')=true)
 (h:wpList P ops Q rest ((a.put (some d1) (.agg cells)).put (some d2) (.pointer (some ⟨w.heap.size,0,none⟩))) (w.alloc (.cells cells t))):wpList P ops Q (o1::o2::o3::rest) a w:=by
 refine YbO h1.2.2 t parts h1.1 vals hv cells hb ?_;refine Ycv h2.2.2 t h2.1 z hz ?_;rw[h1.2.1,h2.2.1];refine Yed h3.2.2 t (.tmp d2) (.tmp d1) h3.1 cells t z ?_ ?_ hi hold hc ?_
 ·exact eval_put_same _ _ _ (by rwa [size_put])
 ·rw[YfJ _ _ _ _ (Ne.symm hd),eval_put_same _ _ _ hs1]
 ·rw[h3.2.1]; exact h
theorem below_alloc1 (w:World)(o:Obj):Below w.heap.size w (w.alloc o):=(Below.refl _ _).alloc (Nat.le_refl _) o
theorem below_drewN {B:Nat}{a w:World}(h:Below B a w)(n:Nat):Below B a (w.drewN n):=h.trans ⟨rfl,rfl,rfl,Nat.le_refl _,fun _ _=>rfl⟩
theorem Yb4 {P:Program}{f:FuncId}{args:Array Value}{w:World}{n m:Nat}{v:Value}(h:∀w,Calls P f args w fun e w'=>e= .returned v/\w'=w):
 Calls P f args (w.drewN (n+m)) fun e w''=>e= .returned v/\∃k,w''=w.drewN (n+k):=(h _).mono fun _ _ ⟨a,b⟩=>⟨a,m,b⟩
theorem YoN {P:Program}{f:FuncId}{args:Array Value}{w:World}{n m:Nat}{v:Value}(h:Calls P f args (w.drewN (n+m)) fun e w'=>e= .returned v/\w'=w.drewN (n+m)):
 Calls P f args (w.drewN (n+m)) fun e w''=>e= .returned v/\∃k,w''=w.drewN (n+k):=h.mono fun _ _ ⟨a,b⟩=>⟨a,m,b⟩
structure Keep (S:Nat->Prop)(w w':World):Prop where
 os:w'.os=w.os
 tape:w'.tape=w.tape
 output:w'.output=w.output
 size:w.heap.size<=w'.heap.size
 block:∀k,k<w.heap.size->¬S k->w'.heap[k]? =w.heap[k]?
section
variable {S T:Nat->Prop}{a b c w w':World}
theorem Keep.refl (S:Nat->Prop)(w:World):Keep S w w:=⟨rfl,rfl,rfl,Nat.le_refl _,fun _ _ _=>rfl⟩
theorem Keep.trans (h:Keep S a b)(k:Keep T b c)(hT:∀i,i<a.heap.size->T i->S i):Keep S a c:=
 ⟨k.os.trans h.os,k.tape.trans h.tape,k.output.trans h.output,Nat.le_trans h.size k.size,fun i hi hS=>(k.block i (Nat.lt_of_lt_of_le hi h.size) (fun q=>hS (hT i hi q))).trans (h.block i hi hS)⟩
theorem Keep.mono (h:Keep S a b)(hT:∀i,i<a.heap.size->S i->T i):Keep T a b:=⟨h.os,h.tape,h.output,h.size,fun i hi n=>h.block i hi (fun q=>n (hT i hi q))⟩
theorem Keep.of_below (h:Below a.heap.size a b):Keep S a b:=⟨h.os,h.tape,h.output,h.size,fun i hi _=>h.block i hi⟩
theorem Keep.of_grown {row:Option Nat}(h:a.grownBy b row):Keep (fun k=>row=some k) a b:=⟨h.os,h.tape,h.output,h.size,fun i hi n=>h.block i hi (fun e=>n e.symm)⟩
theorem Keep.of_setCell (w:World)(p:Addr)(u:Value):Keep (fun k=>k=p.block) w (w.setCell p u):=
 ⟨rfl,rfl,rfl,by simp[World.setCell],fun i _ n=>Below.heap_setCell _ _ _ _ n⟩
theorem Keep.of_alloc (w:World)(o:Obj):Keep S w (w.alloc o):=Keep.of_below (below_alloc1 w o)
theorem Keep.of_drewN (w:World)(n:Nat):Keep S w (w.drewN n):=⟨rfl,rfl,rfl,Nat.le_refl _,fun _ _ _=>rfl⟩
theorem Keep.below (h:Keep S a b){B:Nat}(hB:B<=a.heap.size)(hS:∀i,i<B->¬S i):Below B a b:=⟨h.os,h.tape,h.output,h.size,fun i hi=>h.block i (Nat.lt_of_lt_of_le hi hB) (hS i hi)⟩
theorem Keep.cell (h:Keep S w w'){p:Addr}(hp:p.block<w.heap.size)(hS:¬S p.block):w'.cell? p=w.cell? p:=World.cell?_of_block (w:=w) (h.block p.block hp hS)
theorem Keep.owns (h:Keep S w w'){base:Nat}{e:TypeId}{size:Nat}{v:Value}{n:Nat}{xs:List Value}(ho:w.ownsRow base e size v n xs)(hS:∀k,v.ownBlock=some k->¬S k):w'.ownsRow base e size v n xs:=by
 obtain⟨h1,h2⟩:=ho;refine⟨h1,?_⟩;rcases h2 with h2 | ⟨g,cap,cur,hv,hg,hh,r⟩
 ·exact .inl h2
 ·refine .inr ⟨g,cap,cur,hv,hg,?_,r⟩;rw[h.block g (by obtain⟨hlt,_⟩:=Zg hh; exact hlt) (hS g (by rw[hv]; rfl))];exact hh
theorem Keep.row (h:Keep S w w'){b:Nat}{t:TypeId}{n:Nat}{f:Nat->Value}(hr:w.rowIs b t n f)(hS:¬S b):w'.rowIs b t n f:=hr.of_block (h.block b hr.lt hS)
end
theorem Yfv {W w1:World}{o:Obj}{row:Option Nat}(h:((W.alloc o).drew).grownBy w1 row){b:Nat}(hp:b<W.heap.size)(hne:row≠some b):w1.heap[b]? =W.heap[b]?:=
 (h.block b (by show b<(W.alloc o).heap.size; simp; omega) (fun e=>hne e.symm)).trans (Below.heap_alloc W o b hp)
theorem frozen_far {W w1:World}{o:Obj}{row:Option Nat}(h:((W.alloc o).drew).grownBy w1 row){p:Addr}(hp:p.block<W.heap.size)(hne:row≠some p.block)(hf:W.frozen? p=false):w1.frozen? p=false:=
 (World.frozen?_of_block (w:=W) (Yfv h hp hne)).trans hf
theorem cell_far {W w1:World}{o:Obj}{row:Option Nat}(h:((W.alloc o).drew).grownBy w1 row){p:Addr}(hp:p.block<W.heap.size)(hne:row≠some p.block){u:Value}(hf:W.cell? p=some u):w1.cell? p=some u:=
 (World.cell?_of_block (w:=W) (Yfv h hp hne)).trans hf
theorem Ya {P:Program}{fn:Func}{p q:Tmp}{ty:TypeId}(h:fn.results=#[.cell p ty,.tmp q])(tmps:Array Value)(w:World)(g:Nat)(t:TypeId)(cs:Array Value)(fr:Nat×Nat)(d:TypeDesc)(x:Value)
 (hp:tmps.getD p undef= .pointer (some ⟨g,0,none⟩))(hq:tmps.getD q undef=x)(hg:w.heap[g]? =some (.cells cs t fr))
 (hu:P.underlying ty=some d)(hd:(match d with | .struct _ | .array _ _=>true | _=>false)=true)(hi:(P.info? ty).map (·.size)=some cs.size):
 (results fn tmps).run P w= .ok (.tuple #[.agg cs,x]) w:=by
 have hp':tmps[p]?.getD undef= .pointer (some ⟨g,0,none⟩):=by simpa using hp
 have hq':tmps[q]?.getD undef=x:=by simpa using hq
 simp[results,h,hp',hq',asAddr,run_loadVar_row w g t ty cs fr d hg hu hd hi]
theorem Yr {w:World}{base:Nat}{e:TypeId}{size:Nat}{v:Value}{n:Nat}{xs:List Value}(h:w.ownsRow base e size v n xs){k:Nat}(hk:v.ownBlock=some k):∃c,w.heap[k]? =some (.cells c e (0,0)):=by
 rcases h.2 with⟨rfl,_⟩ | ⟨g,cap,cur,rfl,_,hh,_⟩
 ·cases hk
 ·simp only[Value.ownBlock,Option.some.injEq] at hk;subst hk; exact⟨cur,hh⟩
def entryOf (p:(Int×Int)×Nat):MapEntry:={ key:=.int .u8 p.1.1,val:=.int .u8 p.1.2,born:=p.2 }
def Yx (l:List (Int×Int)):Obj:=.map (l.zipIdx.map entryOf).toArray l.length
def Yo (c:Int):List (Int×Int)->Option Int
 |[]=>none
 |p::l=>if c=p.1 then some p.2 else Yo c l
theorem Ydi (c:Int):∀(l:List (Int×Int)) (j i:Nat),((Instr.findNow (.int .u8) (.int .u8 c) ((l.zipIdx j).map entryOf) i).map (·.map (·.2)))=some ((Yo c l).map (Value.int .u8))
 |[],j,i=>rfl
 |
  p::l,j,i=>by
  simp only[List.zipIdx_cons,List.map_cons,Instr.findNow,entryOf,Instr.sameNow,if_pos,Yo];by_cases h:c=p.1
  ·subst h; simp
  ·rw[if_neg h,show(c==p.1)=false from beq_eq_false_iff_ne.2 h];exact Ydi c l (j+1) (i+1)
theorem Ydj {P:Program}{kt:TypeId}(hk:P.underlying kt=some (.int .u8))(c:Int)(l:List (Int×Int))(w:World):
 ∃r,(Instr.findKey kt (.int .u8 c) ((l.zipIdx).map entryOf)).run P w= .ok r w/\r.map (·.2)=(Yo c l).map (Value.int .u8):=by
 have h:=Ydi c l 0 0;cases hf:Instr.findNow (.int .u8) (.int .u8 c) ((l.zipIdx).map entryOf) 0 with
 |none=>rw[hf] at h; cases h
 |
  some r=>
  rw[hf] at h;refine⟨r,?_,by simpa using h⟩;simp[Instr.findKey,Sem.run_bind,run_underlying hk w,hf]
theorem Ybc {P:Program}{kt:TypeId}(hk:P.underlying kt=some (.int .u8))(b:Bool)(c:Int)(w:World):(Instr.checkKey b 10000 kt (.int .u8 c)).run P w= .ok () w:=by
 rw[show(10000:Nat)=9999+1 from rfl,Instr.checkKey];simp[Sem.run_bind,run_underlying hk w]
theorem Yef {P:Program}{t kt et:TypeId}(ht:P.underlying t=some (.map kt et))(hk:P.underlying kt=some (.int .u8))(hz:∀w,(zeroValue et).run P w= .ok (.int .u8 0) w)
 (w:World)(r:Nat)(l:List (Int×Int))(hr:w.heap[r]? =some (Yx l))(c:Int):
 (Instr.lookup t (.map (some r)) (.int .u8 c) true).run P w= .ok (.tuple #[.int .u8 ((Yo c l).getD 0),.bool (Yo c l).isSome]) w:=by
 obtain⟨q,hq,he⟩:=Ydj (P:=P) hk c l w;have hg:(getObj r).run P w= .ok (Yx l) w:=by simp[getObj,Sem.run,hr,Yx]
 unfold Instr.lookup;rw[Sem.run_bind,run_underlying ht w];simp only[Result.andThen_ok];rw[Sem.run_bind,hg];simp only[Result.andThen_ok,Yx,Sem.run_bind,Sem.run_pure,Ybc hk,hq];cases q with
 |
  none=>
  have:Yo c l=none:=by cases hb:Yo c l with | none=>rfl | some x=>rw[hb] at he; cases he
  simp[this,hz]
 |
  some q=>
  cases hb:Yo c l with
  |none=>rw[hb] at he; cases he
  |some x=>rw[hb] at he; simp only[Option.map_some,Option.some.injEq] at he; simp[he]
theorem Yl {P:Program}{ops:Array Oper}{rest:List Oper}{o:Oper}{a:Act}{w:World}{Q:Exit->Act->World->Prop}(hg:o.guard=none)(m x:Operand)(t:TypeId)(hop:o.op= .lookup t m x true)
 (kt et:TypeId)(ht:P.underlying t=some (.map kt et))(hk:P.underlying kt=some (.int .u8))(hz:∀w,(zeroValue et).run P w= .ok (.int .u8 0) w)
 (r:Nat)(l:List (Int×Int))(hr:w.heap[r]? =some (Yx l))(c:Int)(hm:a.eval m= .map (some r))(hx:a.eval x= .int .u8 c)
 (h:wpList P ops Q rest (a.put o.dst (.tuple #[.int .u8 ((Yo c l).getD 0),.bool (Yo c l).isSome])) w):wpList P ops Q (o::rest) a w:=
 wpList_plain hg fun K hK=>by
  unfold Oper.wp execOp;simp only[hop,hm,hx,Sem.run_bind,Yef ht hk hz w r l hr c,Result.andThen_ok,Sem.run_pure];exact hK _ _ h
theorem Ymt (w:World)(o o':Obj):({ w.alloc o with heap:=(w.alloc o).heap.setIfInBounds w.heap.size o' }:World)=w.alloc o':=by
 simp only[World.alloc];congr 1
 apply Array.ext_getElem?;intro i;rw[Array.getElem?_setIfInBounds,Array.getElem?_push,Array.getElem?_push];by_cases h:w.heap.size=i
 ·subst h; simp
 ·rw[if_neg h,if_neg (Ne.symm h),if_neg (Ne.symm h)]
theorem Yji (l:List (Int×Int))(k v:Int):Yx (l++[(k,v)])= .map ((l.zipIdx.map entryOf).toArray.push { key:=.int .u8 k,val:=.int .u8 v,born:=l.length }) (l.length+1):=by
 simp[Yx,List.zipIdx_append,entryOf]
theorem Yhn {k:Int}{l:List (Int×Int)}(h:∀p∈l,k≠p.1):Yo k l=none:=by
 induction l with
 |nil=>rfl
 |
  cons p l ih=>
  rw[Yo,if_neg (h p Zs)];exact ih (fun q hq=>h q (by simp[hq]))
theorem YaM {P:Program}{t kt et:TypeId}(ht:P.underlying t=some (.map kt et))(hk:P.underlying kt=some (.int .u8))
 (w:World)(r:Nat)(l:List (Int×Int))(hr:w.heap[r]? =some (Yx l))(k v:Int)(hn:Yo k l=none):
 (Instr.mapUpdate t (.map (some r)) (.int .u8 k) (.int .u8 v)).run P w= .ok () { w with heap:=w.heap.setIfInBounds r (Yx (l++[(k,v)])) }:=by
 obtain⟨q,hq,he⟩:=Ydj (P:=P) hk k l w;rw[hn] at he;have hq0:q=none:=by cases q with | none=>rfl | some x=>cases he
 subst hq0;have hg:(getObj r).run P w= .ok (Yx l) w:=by simp[getObj,Sem.run,hr,Yx]
 unfold Instr.mapUpdate;rw[Sem.run_bind,run_underlying ht w];simp only[Result.andThen_ok];rw[Sem.run_bind,hg];simp only[Result.andThen_ok,Yx,Sem.run_bind,Ybc hk,hq];rw[show({ w with heap:=w.heap.setIfInBounds r (Obj.map ((l++[(k,v)]).zipIdx.map entryOf).toArray (l++[(k,v)]).length) }:World)={ w with heap:=w.heap.setIfInBounds r (Yx (l++[(k,v)])) } from rfl,Yji];simp[setObj,Sem.run,hr,Yx]
theorem YI {P:Program}{ops:Array Oper}{rest:List Oper}{o:Oper}{a:Act}{w:World}{Q:Exit->Act->World->Prop}(hg:o.guard=none)(m x y:Operand)(t:TypeId)(hop:o.op= .insert t m x y)
 (kt et:TypeId)(ht:P.underlying t=some (.map kt et))(hk:P.underlying kt=some (.int .u8))(l:List (Int×Int))(k v:Int)(hm:a.eval m= .map (some w.heap.size))(hx:a.eval x= .int .u8 k)(hy:a.eval y= .int .u8 v)(hn:Yo k l=none)
 (h:wpList P ops Q rest (a.put o.dst undef) (w.alloc (Yx (l++[(k,v)])))):wpList P ops Q (o::rest) a (w.alloc (Yx l)):=
 wpList_plain hg fun K hK=>by
  unfold Oper.wp execOp;simp only[hop,hm,hx,hy,Sem.run_bind,YaM ht hk (w.alloc (Yx l)) w.heap.size l (heap_alloc_new _ _) k v hn,Result.andThen_ok,Sem.run_pure,Ymt];exact hK _ _ h
def JL (bm n:Nat)(vis:List Nat):Obj:=.mapIter (some bm) n vis.toArray n
theorem YqC (l:List (Int×Int)):∀x∈((l.zipIdx.map entryOf).toArray).toList,x.born<l.length:=by
 intro x hx;simp only[List.mem_map] at hx;obtain⟨⟨p,i⟩,hm,rfl⟩:=hx;have h:=(List.mem_zipIdx hm).2.1;show i<l.length;omega
theorem YlF (l:List (Int×Int)):((((l.zipIdx.map entryOf).toArray).toList).map (·.born)).Nodup:=by
 have:(((l.zipIdx.map entryOf).toArray).toList).map (·.born)=l.zipIdx.map (·.2):=by
  simp[entryOf,Function.comp_def]
 rw[this,List.zipIdx_map_snd];exact List.nodup_range'
theorem Ypg (l:List (Int×Int))(x:MapEntry)(hx:x∈((l.zipIdx.map entryOf).toArray).toList):∃p,l[x.born]? =some p/\x.key= .int .u8 p.1/\x.val= .int .u8 p.2:=by
 simp only[List.mem_map] at hx;obtain⟨⟨p,i⟩,hm,rfl⟩:=hx;exact⟨p,List.mem_zipIdx_iff_getElem?.1 hm,rfl,rfl⟩
theorem Ypf (l:List (Int×Int))(i:Nat)(hi:i<l.length):entryOf (l[i],i)∈((l.zipIdx.map entryOf).toArray).toList:=by
 simp only[List.mem_map];exact⟨(l[i],i),List.mem_zipIdx_iff_getElem?.2 (List.getElem?_eq_getElem hi),rfl⟩
theorem Ydt {P:Program}{ops:Array Oper}{rest:List Oper}{o:Oper}{a:Act}{w:World}{Q:Exit->Act->World->Prop}(hg:o.guard=none)(it:Operand)(hop:o.op=Op.next it false)
 (r bm:Nat)(l:List (Int×Int))(vis:List Nat)(hit:a.eval it= .pointer (some ⟨r,0,none⟩))(hr:w.heap[r]? =some (JL bm l.length vis))(hb:w.heap[bm]? =some (Yx l))(hne:bm≠r)
 (hDone:(∀i,i<l.length->i∈vis)->wpList P ops Q rest (a.put o.dst (.tuple #[.bool false])) w)
 (hMore:∀(i:Nat) (p:Int×Int) (w1:World),l[i]? =some p->i∉vis->Keep (fun k=>k=r) w w1->w1.heap.size=w.heap.size->w1.heap[r]? =some (JL bm l.length (vis++[i]))->
   (Instr.entry (.pointer (some ⟨r,0,none⟩))).run P w1= .ok (.tuple #[.int .u8 p.1,.int .u8 p.2]) w1->wpList P ops Q rest (a.put o.dst (.tuple #[.bool true,.int .u8 p.1,.int .u8 p.2])) w1):
 wpList P ops Q (o::rest) a w:=by
 refine wpList_plain hg fun K' hK'=>?_;have hlt:r<w.heap.size:=by obtain⟨q,_⟩:=Zg hr; exact q
 unfold Oper.wp;rcases run_next_at (P:=P) w o.type r bm l.length l.length vis.toArray (l.zipIdx.map entryOf).toArray l.length hr hb (YqC l) (Nat.le_refl _) with⟨h0,hrun⟩ | ⟨e,he,w1,hw1,hrun⟩
 ·simp[execOp,hop,hit,hrun,Result.andThen];refine hK' _ _ (hDone fun i hi=>?_);have h1:leftOf (l.zipIdx.map entryOf).toArray vis.toArray=#[]:=Array.eq_empty_of_size_eq_zero h0;unfold leftOf at h1;rw[Array.filter_eq_empty_iff] at h1;have h2:=h1 (entryOf (l[i],i)) (by simpa using Ypf l i hi);simpa[entryOf] using h2
 ·unfold leftOf at he;simp only[Array.toList_filter,List.mem_filter] at he;obtain⟨hm,hs⟩:=he;obtain⟨p,hp,hk,hv⟩:=Ypg l e hm;have hnv:e.born∉vis:=by simpa using hs
  have hsz1:w1.heap=w.heap:=by rcases hw1 with rfl | rfl<;>rfl
  have hobj:Obj.mapIter (some bm) l.length (vis.toArray.push e.born) l.length=JL bm l.length (vis++[e.born]):=by simp[JL]
  have hset:(Go.ChangeMaps.setBlock w1 r (JL bm l.length (vis++[e.born]))).heap=w.heap.setIfInBounds r (JL bm l.length (vis++[e.born])):=by
   show w1.heap.setIfInBounds _ _=_;rw[hsz1]
  have hat:(Go.ChangeMaps.setBlock w1 r (JL bm l.length (vis++[e.born]))).heap[r]? =some (JL bm l.length (vis++[e.born])):=by
   rw[hset,Array.getElem?_setIfInBounds,if_pos rfl,if_pos hlt]
  have hkeep:Keep (fun k=>k=r) w (Go.ChangeMaps.setBlock w1 r (JL bm l.length (vis++[e.born]))):=by
   refine⟨?_,?_,?_,?_,fun k _ n=>?_⟩
   ·rcases hw1 with rfl | rfl<;>rfl
   ·rcases hw1 with rfl | rfl<;>rfl
   ·rcases hw1 with rfl | rfl<;>rfl
   ·rw[hset]; simp
   ·rw[hset,Array.getElem?_setIfInBounds,if_neg (fun q=>n q.symm)]
  rw[hobj,hk,hv] at hrun;simp only[execOp,hop,hit,hrun,Sem.run_bind,Sem.run_pure,Result.andThen_ok];refine hK' _ _ (hMore e.born p _ hp hnv hkeep (by rw[hset]; simp) hat ?_);have:=run_entry_at (P:=P) (Go.ChangeMaps.setBlock w1 r (JL bm l.length (vis++[e.born]))) r bm l.length vis.toArray (l.zipIdx.map entryOf).toArray l.length e (by rw[hat,<-hobj])
   ((hkeep.block bm (by obtain⟨q,_⟩:=Zg hb; exact q) hne).trans hb) hm (YlF l)
  rw[this,hk,hv]
theorem YcI {P:Program}{ops:Array Oper}{rest:List Oper}{o:Oper}{a:Act}{w:World}{Q:Exit->Act->World->Prop}(hg:o.guard=none)(m x y:Operand)(t:TypeId)(hop:o.op= .mapUpdate t m x y)
 (kt et:TypeId)(ht:P.underlying t=some (.map kt et))(hk:P.underlying kt=some (.int .u8))(r:Nat)(l:List (Int×Int))(hr:w.heap[r]? =some (Yx l))(k v:Int)(hm:a.eval m= .map (some r))(hx:a.eval x= .int .u8 k)(hy:a.eval y= .int .u8 v)(hn:Yo k l=none)
 (h:∀w1:World,Keep (fun k=>k=r) w w1->w1.heap.size=w.heap.size->w1.heap[r]? =some (Yx (l++[(k,v)]))->wpList P ops Q rest (a.put o.dst undef) w1):wpList P ops Q (o::rest) a w:=
 wpList_plain hg fun K hK=>by
  have hlt:r<w.heap.size:=by obtain⟨q,_⟩:=Zg hr; exact q
  unfold Oper.wp execOp;simp only[hop,hm,hx,hy,Sem.run_bind,YaM ht hk w r l hr k v hn,Result.andThen_ok,Sem.run_pure];refine hK _ _ (h _ ⟨rfl,rfl,rfl,by simp,fun j _ n=>?_⟩ Zs ?_)
  ·show(w.heap.setIfInBounds _ _)[j]? =_;rw[Array.getElem?_setIfInBounds,if_neg (fun q=>n q.symm)]
  ·show(w.heap.setIfInBounds _ _)[r]? =_;rw[Array.getElem?_setIfInBounds,if_pos rfl,if_pos hlt]
theorem Yc2 {P:Program}{ops:Array Oper}{rest:List Oper}{o:Oper}{a:Act}{w:World}{Q:Exit->Act->World->Prop}(hg:o.guard=none)(m:Operand)(t:TypeId)(hop:o.op=Op.range t m)
 (kt et:TypeId)(ht:P.underlying t=some (.map kt et))(bm:Nat)(l:List (Int×Int))(hb:w.heap[bm]? =some (Yx l))(hm:a.eval m= .map (some bm))
 (h:wpList P ops Q rest (a.put o.dst (.pointer (some ⟨w.heap.size,0,none⟩))) (w.alloc (JL bm l.length []))):wpList P ops Q (o::rest) a w:=
 wpList_plain hg fun K hK=>by
  unfold Oper.wp execOp;simp only[hop,hm,Sem.run_bind,run_range_map w t kt et bm (l.zipIdx.map entryOf).toArray l.length ht hb,Result.andThen_ok,Sem.run_pure];exact hK _ _ h
theorem Yeb {c v:Int}:∀{l:List (Int×Int)},(l.map (·.1)).Nodup->(c,v)∈l->Yo c l=some v
 |
  p::l,hn,hm=>by
  have hn2:=List.nodup_cons.1 (show(p.1::l.map (·.1)).Nodup from hn);rcases List.mem_cons.1 hm with h | h
  ·subst h; simp[Yo]
  ·have hne:¬c=p.1:=fun e=>hn2.1 (by rw[<-e]; exact List.mem_map.2 ⟨(c,v),h,rfl⟩);rw[Yo,if_neg hne];exact Yeb hn2.2 h
theorem Yb8 {c v:Int}:∀{l:List (Int×Int)},Yo c l=some v->(c,v)∈l
 |
  p::l,h=>by
  rw[Yo] at h;by_cases e:c=p.1
  ·rw[if_pos e] at h; cases h; subst e; simp
  ·rw[if_neg e] at h; exact List.mem_cons_of_mem _ (Yb8 h)
theorem YmY {l:List Int}(h:l.Nodup){i j:Nat}{x:Int}(hi:l[i]? =some x)(hj:l[j]? =some x):i=j:=by
 obtain⟨a1,a2⟩:=List.getElem?_eq_some_iff.1 hi;obtain⟨b1,b2⟩:=List.getElem?_eq_some_iff.1 hj;have h2:=List.pairwise_iff_getElem.1 h;rcases Nat.lt_trichotomy i j with q | q | q
 ·exact absurd (a2.trans b2.symm) (h2 i j a1 b1 q)
 ·exact q
 ·exact absurd (b2.trans a2.symm) (h2 j i b1 a1 q)
theorem Ykf {c v:Int}:∀{l:List (Int×Int)},Yo c l=none->(c,v)∈l->False
 |
  q::m,h1,h3=>by
  rw[Yo] at h1;by_cases e:c=q.1
  ·rw[if_pos e] at h1; cases h1
  ·rw[if_neg e] at h1;rcases List.mem_cons.1 h3 with e2 | e2
   ·exact e (by rw[<-e2])
   ·exact Ykf h1 e2
def Yav (l:List (Int×Int))(vis:List Nat):List (Int×Int):=vis.filterMap fun i=>(l[i]?).map fun p=>(p.2,p.1)
theorem YjU {l:List (Int×Int)}{vis:List Nat}{q:Int×Int}:q∈Yav l vis↔∃i∈vis,l[i]? =some (q.2,q.1):=by
 unfold Yav;rw[List.mem_filterMap];constructor
 ·rintro⟨i,hi,h⟩;cases hl:l[i]? with
  |none=>rw[hl] at h; cases h
  |some p=>rw[hl] at h; cases h; exact⟨i,hi,hl⟩
 ·rintro⟨i,hi,h⟩;exact⟨i,hi,by rw[h]; rfl⟩
theorem Ymk {l:List (Int×Int)}{vis:List Nat}{i:Nat}{p:Int×Int}(h:l[i]? =some p):Yav l (vis++[i])=Yav l vis++[(p.2,p.1)]:=by
 simp[Yav,List.filterMap_append,h]
theorem Yox {l:List (Int×Int)}(hl:(l.map (·.2)).Nodup){vis:List Nat}{i:Nat}{p:Int×Int}(h:l[i]? =some p)(hv:i∉vis):Yo p.2 (Yav l vis)=none:=by
 refine Yhn fun q hq e=>?_;obtain⟨j,hj,h2⟩:=YjU.1 hq;have h3:(l.map (·.2))[i]? =some p.2:=by rw[List.getElem?_map,h]; rfl
 have h4:(l.map (·.2))[j]? =some p.2:=by rw[List.getElem?_map,h2,e]; rfl
 have:i=j:=YmY hl h3 h4;exact hv (this▸hj)
theorem Yoy {l:List (Int×Int)}(hl:(l.map (·.2)).Nodup){vis:List Nat}(hall:∀i,i<l.length->i∈vis)(c:Int):Yo c (Yav l vis)=Yo c (l.map fun p=>(p.2,p.1)):=by
 have key:∀v,(c,v)∈Yav l vis↔(c,v)∈l.map fun p=>(p.2,p.1):=fun v=>by
  rw[YjU,List.mem_map];constructor
  ·rintro⟨i,_,h⟩;exact⟨(v,c),List.mem_of_getElem? h,rfl⟩
  ·rintro⟨p,hp,e⟩;obtain⟨i,hi⟩:=List.getElem?_of_mem hp;cases e;obtain⟨a1,_⟩:=List.getElem?_eq_some_iff.1 hi;exact⟨i,hall i a1,hi⟩
 cases h1:Yo c (Yav l vis) with
 |
  some v=>
  have h2:=(key v).1 (Yb8 h1);refine(Yeb ?_ h2).symm;rw[List.map_map];exact hl
 |
  none=>
  cases h2:Yo c (l.map fun p=>(p.2,p.1)) with
  |none=>rfl
  |
   some v=>
   exact(Ykf h1 ((key v).2 (Yb8 h2))).elim
section
variable {w W W':World}{rs:List (Array Value×TypeId)}{cs:Array Value}{t:TypeId}{k:Nat}{v:Value}
end
theorem row3 {W:World}{g:Nat}{a b c:Value}{t:TypeId}(h:W.heap[g]? =some (.cells #[a,b,c] t (0,0))):W.cell? ⟨g,0,none⟩=some a/\W.cell? ⟨g,1,none⟩=some b/\W.cell? ⟨g,2,none⟩=some c:=
 ⟨by simp[World.cell?,h],by simp[World.cell?,h],by simp[World.cell?,h]⟩
end Go.Proofs.YteamjdmhdfjopaaGreatDoor
