/- A part of the proof; it holds the texts Wx Fra (names and blanks shortened). -/
import Derived.WalkKit
import Derived.WalkSpells
import Derived.WalkLawsBesides
import Derived.Lib.Hide
import Derived.IntWalk
import Derived.BigQuiet
import Derived.Deep.QuietTactic
import Derived.Deep.OwnRows
import Derived.Laws.Rows
import Derived.Outline
import Derived.Deep.RegionHeld3
import Derived.Deep.AppendLies
import Derived.Deep.RegionLaw
import Derived.StillTailTactics
import Derived.Deep.DrawnRows
import Derived.Maps.RangeWalk
import Derived.Maps.RangeRun
import Derived.Test.YteamjdmhdfjopaaGreatDoorM1
namespace Go.Proofs.YteamjdmhdfjopaaGreatDoor
open Go.RowKit
set_option maxRecDepth 100000
set_option maxHeartbeats 8000000
set_option linter.unusedVariables false
set_option linter.unusedSimpArgs false
theorem YhU {P:Program}{t:TypeId}{z:Array Value}(hz:∀w,(zeroValue t).run P w= .ok (.agg z) w)(w:World)(old:Value):
 (Instr.alloc t true old).run P w= .ok (.pointer (some ⟨w.heap.size,0,none⟩)) (w.alloc (.cells z t)):=by
 simp[Instr.alloc,Sem.run_bind,hz w,newVar,Value.cells,go_sem]
theorem YcB {P:Program}{ops:Array Oper}{rest:List Oper}{o:Oper}{a:Act}{w:World}{Q:Exit->Act->World->Prop}(hgd:o.guard=none)(t:TypeId)(ho:o.op= .alloc t)
 (z:Array Value)(hz:∀w,(zeroValue t).run P w= .ok (.agg z) w)
 (h:wpList P ops Q rest (a.put o.dst (.pointer (some ⟨w.heap.size,0,none⟩))) (w.alloc (.cells z t))):wpList P ops Q (o::rest) a w:=
 wpList_plain hgd fun K hK=>by
  unfold Oper.wp execOp;simp only[ho,Sem.run_bind,YhU hz,Result.andThen_ok,Sem.run_pure];exact hK _ _ h
theorem YbX {P:Program}{ops:Array Oper}{rest:List Oper}{o:Oper}{a:Act}{w:World}{Q:Exit->Act->World->Prop}(hgd:o.guard=none)(t:TypeId)(parts:Array (Nat×Operand))(ho:o.op= .build t parts)
 (vals:List (Nat×Value))(hv:(parts.map fun(i,x)=>(i,a.eval x)).toList=vals)(cells:Array Value)(hb:P.built t vals=some cells)
 (h:wpList P ops Q rest (a.put o.dst (.agg cells)) w):wpList P ops Q (o::rest) a w:=by
 subst hv;refine wpList_build hgd t parts ho (by rw[hb]; rfl) ?_;rw[hb];exact h
theorem Yg2 (w:World)(old cells:Array Value)(t:TypeId):(w.alloc (.cells old t)).setRow w.heap.size cells=w.alloc (.cells cells t):=by
 simp only[World.setRow,World.alloc];congr 1
 apply Array.ext
 ·simp
 ·intro i h1 h2;simp only[Array.getElem_modify,Array.getElem_push];by_cases h:w.heap.size=i
  ·subst h; simp
  ·have hi:i<w.heap.size:=by simp at h1; omega
   simp[h,hi]
theorem YbQ {P:Program}{ops:Array Oper}{rest:List Oper}{o:Oper}{a:Act}{w:World}{Q:Exit->Act->World->Prop}(hgd:o.guard=none)(ty:TypeId)(x y:Operand)(ho:o.op= .store ty x y)
 (cells:Array Value)(t:TypeId)(old:Array Value)(hx:a.eval x= .pointer (some ⟨w.heap.size,0,none⟩))(hy:a.eval y= .agg cells)(hi:(P.info? ty).map (·.size)=some cells.size)
 (hold:old.size=cells.size)(h1:cells.all (·.oneCell')=true)
 (h:wpList P ops Q rest (a.put o.dst undef) (w.alloc (.cells cells t))):wpList P ops Q (o::rest) a (w.alloc (.cells old t)):=by
 refine wpList_store_row hgd ty x y ho w.heap.size cells hx hy t old (heap_alloc_new _ _) hi hold h1 ?_;rw[Yg2];exact h
theorem eval_put_same (a:Act)(d:Nat)(v:Value)(h:d<a.tmps.size):(a.put (some d) v).eval (.tmp d)=v:=by
 simp[Act.put,Act.eval,h]
theorem Yff (a:Act)(d e:Nat)(v:Value)(h:d≠e):(a.put (some d) v).eval (.tmp e)=a.eval (.tmp e):=by
 simp[Act.put,Act.eval,h]
theorem size_put (a:Act)(d:Option Nat)(v:Value):(a.put d v).tmps.size=a.tmps.size:=by
 cases d<;>simp[Act.put]
theorem Yfb {P:Program}{ops:Array Oper}{rest:List Oper}{o1 o2 o3:Oper}{a:Act}{w:World}{Q:Exit->Act->World->Prop}(t:TypeId)(parts:Array (Nat×Operand))(d1 d2:Nat)
 (h1:o1.op= .build t parts/\o1.dst=some d1/\o1.guard=none)(h2:o2.op= .alloc t/\o2.dst=some d2/\o2.guard=none)(h3:o3.op= .store t (.tmp d2) (.tmp d1)/\o3.dst=none/\o3.guard=none)
 (hd:d1≠d2)(hs1:d1<a.tmps.size)(hs2:d2<a.tmps.size)
 (vals:List (Nat×Value))(hv:(parts.map fun(i,x)=>(i,a.eval x)).toList=vals)(cells:Array Value)(hb:P.built t vals=some cells)
 (z:Array Value)(hz:∀w,(zeroValue t).run P w= .ok (.agg z) w)(hi:(P.info? t).map (·.size)=some cells.size)(hold:z.size=cells.size)(hc:cells.all (·.oneCell')=true)
 (h:wpList P ops Q rest ((a.put (some d1) (.agg cells)).put (some d2) (.pointer (some ⟨w.heap.size,0,none⟩))) (w.alloc (.cells cells t))):wpList P ops Q (o1::o2::o3::rest) a w:=by
 refine YbX h1.2.2 t parts h1.1 vals hv cells hb ?_;refine YcB h2.2.2 t h2.1 z hz ?_;rw[h1.2.1,h2.2.1];refine YbQ h3.2.2 t (.tmp d2) (.tmp d1) h3.1 cells t z ?_ ?_ hi hold hc ?_
 ·exact eval_put_same _ _ _ (by rwa [size_put])
 ·rw[Yff _ _ _ _ (Ne.symm hd),eval_put_same _ _ _ hs1]
 ·rw[h3.2.1]; exact h
theorem below_alloc1 (w:World)(o:Obj):Below w.heap.size w (w.alloc o):=(Below.refl _ _).alloc (Nat.le_refl _) o
theorem below_drewN {B:Nat}{a w:World}(h:Below B a w)(n:Nat):Below B a (w.drewN n):=h.trans ⟨rfl,rfl,rfl,Nat.le_refl _,fun _ _=>rfl⟩
theorem Ybk {P:Program}{f:FuncId}{args:Array Value}{w:World}{n m:Nat}{v:Value}(h:∀w,Calls P f args w fun e w'=>e= .returned v/\w'=w):
 Calls P f args (w.drewN (n+m)) fun e w''=>e= .returned v/\∃k,w''=w.drewN (n+k):=(h _).mono fun _ _ ⟨a,b⟩=>⟨a,m,b⟩
theorem Ymz {P:Program}{f:FuncId}{args:Array Value}{w:World}{n m:Nat}{v:Value}(h:Calls P f args (w.drewN (n+m)) fun e w'=>e= .returned v/\w'=w.drewN (n+m)):
 Calls P f args (w.drewN (n+m)) fun e w''=>e= .returned v/\∃k,w''=w.drewN (n+k):=h.mono fun _ _ ⟨a,b⟩=>⟨a,m,b⟩
theorem YkW {P:Program}{f:FuncId}{args:Array Value}{w:World}{m:Nat}{v:Value}(h:∀w,Calls P f args w fun e w'=>e= .returned v/\w'=w):
 Calls P f args (w.drewN m) fun e w''=>e= .returned v/\∃k,w''=w.drewN k:=(h _).mono fun _ _ ⟨a,b⟩=>⟨a,m,b⟩
structure Keep (S:Nat->Prop)(w w':World):Prop where
 os:w'.os=w.os
 tape:w'.tape=w.tape
 output:w'.output=w.output
 size:w.heap.size<=w'.heap.size
 block:∀k,k<w.heap.size->¬S k->w'.heap[k]? =w.heap[k]?
section
variable {S T:Nat->Prop}{a b c w w':World}
theorem Keep.refl (S:Nat->Prop)(w:World):Keep S w w:=⟨rfl,rfl,rfl,Nat.le_refl _,fun _ _ _=>rfl⟩
theorem Keep.trans (h:Keep S a b)(k:Keep T b c)(hT:∀i,i<a.heap.size->T i->S i):Keep S a c:=
 ⟨k.os.trans h.os,k.tape.trans h.tape,k.output.trans h.output,Nat.le_trans h.size k.size,fun i hi hS=>(k.block i (Nat.lt_of_lt_of_le hi h.size) (fun q=>hS (hT i hi q))).trans (h.block i hi hS)⟩
theorem Keep.mono (h:Keep S a b)(hT:∀i,i<a.heap.size->S i->T i):Keep T a b:=⟨h.os,h.tape,h.output,h.size,fun i hi n=>h.block i hi (fun q=>n (hT i hi q))⟩
theorem Keep.of_below (h:Below a.heap.size a b):Keep S a b:=⟨h.os,h.tape,h.output,h.size,fun i hi _=>h.block i hi⟩
theorem Keep.of_grown {row:Option Nat}(h:a.grownBy b row):Keep (fun k=>row=some k) a b:=⟨h.os,h.tape,h.output,h.size,fun i hi n=>h.block i hi (fun e=>n e.symm)⟩
theorem Keep.of_setCell (w:World)(p:Addr)(u:Value):Keep (fun k=>k=p.block) w (w.setCell p u):=
 ⟨rfl,rfl,rfl,by simp[World.setCell],fun i _ n=>Below.heap_setCell _ _ _ _ n⟩
theorem Keep.of_alloc (w:World)(o:Obj):Keep S w (w.alloc o):=Keep.of_below (below_alloc1 w o)
theorem Keep.of_drewN (w:World)(n:Nat):Keep S w (w.drewN n):=⟨rfl,rfl,rfl,Nat.le_refl _,fun _ _ _=>rfl⟩
theorem Keep.below (h:Keep S a b){B:Nat}(hB:B<=a.heap.size)(hS:∀i,i<B->¬S i):Below B a b:=⟨h.os,h.tape,h.output,h.size,fun i hi=>h.block i (Nat.lt_of_lt_of_le hi hB) (hS i hi)⟩
theorem Keep.cell (h:Keep S w w'){p:Addr}(hp:p.block<w.heap.size)(hS:¬S p.block):w'.cell? p=w.cell? p:=World.cell?_of_block (w:=w) (h.block p.block hp hS)
theorem Keep.owns (h:Keep S w w'){base:Nat}{e:TypeId}{size:Nat}{v:Value}{n:Nat}{xs:List Value}(ho:w.ownsRow base e size v n xs)(hS:∀k,v.ownBlock=some k->¬S k):w'.ownsRow base e size v n xs:=by
 obtain⟨h1,h2⟩:=ho;refine⟨h1,?_⟩;rcases h2 with h2 | ⟨g,cap,cur,hv,hg,hh,r⟩
 ·exact .inl h2
 ·refine .inr ⟨g,cap,cur,hv,hg,?_,r⟩;rw[h.block g (by obtain⟨hlt,_⟩:=Zg hh; exact hlt) (hS g (by rw[hv]; rfl))];exact hh
theorem Keep.row (h:Keep S w w'){b:Nat}{t:TypeId}{n:Nat}{f:Nat->Value}(hr:w.rowIs b t n f)(hS:¬S b):w'.rowIs b t n f:=hr.of_block (h.block b hr.lt hS)
end
theorem Ye5 {W w1:World}{o:Obj}{row:Option Nat}(h:((W.alloc o).drew).grownBy w1 row){b:Nat}(hp:b<W.heap.size)(hne:row≠some b):w1.heap[b]? =W.heap[b]?:=
 (h.block b (by show b<(W.alloc o).heap.size; simp; omega) (fun e=>hne e.symm)).trans (Below.heap_alloc W o b hp)
theorem frozen_far {W w1:World}{o:Obj}{row:Option Nat}(h:((W.alloc o).drew).grownBy w1 row){p:Addr}(hp:p.block<W.heap.size)(hne:row≠some p.block)(hf:W.frozen? p=false):w1.frozen? p=false:=
 (World.frozen?_of_block (w:=W) (Ye5 h hp hne)).trans hf
theorem cell_far {W w1:World}{o:Obj}{row:Option Nat}(h:((W.alloc o).drew).grownBy w1 row){p:Addr}(hp:p.block<W.heap.size)(hne:row≠some p.block){u:Value}(hf:W.cell? p=some u):w1.cell? p=some u:=
 (World.cell?_of_block (w:=W) (Ye5 h hp hne)).trans hf
theorem Ya {P:Program}{fn:Func}{p q:Tmp}{ty:TypeId}(h:fn.results=#[.cell p ty,.tmp q])(tmps:Array Value)(w:World)(g:Nat)(t:TypeId)(cs:Array Value)(fr:Nat×Nat)(d:TypeDesc)(x:Value)
 (hp:tmps.getD p undef= .pointer (some ⟨g,0,none⟩))(hq:tmps.getD q undef=x)(hg:w.heap[g]? =some (.cells cs t fr))
 (hu:P.underlying ty=some d)(hd:(match d with | .struct _ | .array _ _=>true | _=>false)=true)(hi:(P.info? ty).map (·.size)=some cs.size):
 (results fn tmps).run P w= .ok (.tuple #[.agg cs,x]) w:=by
 have hp':tmps[p]?.getD undef= .pointer (some ⟨g,0,none⟩):=by simpa using hp
 have hq':tmps[q]?.getD undef=x:=by simpa using hq
 simp[results,h,hp',hq',asAddr,run_loadVar_row w g t ty cs fr d hg hu hd hi]
theorem Yt {w:World}{base:Nat}{e:TypeId}{size:Nat}{v:Value}{n:Nat}{xs:List Value}(h:w.ownsRow base e size v n xs){k:Nat}(hk:v.ownBlock=some k):∃c,w.heap[k]? =some (.cells c e (0,0)):=by
 rcases h.2 with⟨rfl,_⟩ | ⟨g,cap,cur,rfl,_,hh,_⟩
 ·cases hk
 ·simp only[Value.ownBlock,Option.some.injEq] at hk;subst hk; exact⟨cur,hh⟩
def entryOf (p:(Int×Int)×Nat):MapEntry:={ key:=.int .u8 p.1.1,val:=.int .u8 p.1.2,born:=p.2 }
def JR (l:List (Int×Int)):Obj:=.map (l.zipIdx.map entryOf).toArray l.length
def JS (c:Int):List (Int×Int)->Option Int
 |[]=>none
 |p::l=>if c=p.1 then some p.2 else JS c l
theorem Ydc (c:Int):∀(l:List (Int×Int)) (j i:Nat),((Instr.findNow (.int .u8) (.int .u8 c) ((l.zipIdx j).map entryOf) i).map (·.map (·.2)))=some ((JS c l).map (Value.int .u8))
 |[],j,i=>rfl
 |
  p::l,j,i=>by
  simp only[List.zipIdx_cons,List.map_cons,Instr.findNow,entryOf,Instr.sameNow,if_pos,JS];by_cases h:c=p.1
  ·subst h; simp
  ·rw[if_neg h,show(c==p.1)=false from beq_eq_false_iff_ne.2 h];exact Ydc c l (j+1) (i+1)
theorem Ydd {P:Program}{kt:TypeId}(hk:P.underlying kt=some (.int .u8))(c:Int)(l:List (Int×Int))(w:World):
 ∃r,(Instr.findKey kt (.int .u8 c) ((l.zipIdx).map entryOf)).run P w= .ok r w/\r.map (·.2)=(JS c l).map (Value.int .u8):=by
 have h:=Ydc c l 0 0;cases hf:Instr.findNow (.int .u8) (.int .u8 c) ((l.zipIdx).map entryOf) 0 with
 |none=>rw[hf] at h; cases h
 |
  some r=>
  rw[hf] at h;refine⟨r,?_,by simpa using h⟩;simp[Instr.findKey,Sem.run_bind,run_underlying hk w,hf]
theorem Ybh {P:Program}{kt:TypeId}(hk:P.underlying kt=some (.int .u8))(b:Bool)(c:Int)(w:World):(Instr.checkKey b 10000 kt (.int .u8 c)).run P w= .ok () w:=by
 rw[show(10000:Nat)=9999+1 from rfl,Instr.checkKey];simp[Sem.run_bind,run_underlying hk w]
theorem YdX {P:Program}{t kt et:TypeId}(ht:P.underlying t=some (.map kt et))(hk:P.underlying kt=some (.int .u8))(hz:∀w,(zeroValue et).run P w= .ok (.int .u8 0) w)
 (w:World)(r:Nat)(l:List (Int×Int))(hr:w.heap[r]? =some (JR l))(c:Int):
 (Instr.lookup t (.map (some r)) (.int .u8 c) true).run P w= .ok (.tuple #[.int .u8 ((JS c l).getD 0),.bool (JS c l).isSome]) w:=by
 obtain⟨q,hq,he⟩:=Ydd (P:=P) hk c l w;have hg:(getObj r).run P w= .ok (JR l) w:=by simp[getObj,Sem.run,hr,JR]
 unfold Instr.lookup;rw[Sem.run_bind,run_underlying ht w];simp only[Result.andThen_ok];rw[Sem.run_bind,hg];simp only[Result.andThen_ok,JR,Sem.run_bind,Sem.run_pure,Ybh hk,hq];cases q with
 |
  none=>
  have:JS c l=none:=by cases hb:JS c l with | none=>rfl | some x=>rw[hb] at he; cases he
  simp[this,hz]
 |
  some q=>
  cases hb:JS c l with
  |none=>rw[hb] at he; cases he
  |some x=>rw[hb] at he; simp only[Option.map_some,Option.some.injEq] at he; simp[he]
theorem YV {P:Program}{ops:Array Oper}{rest:List Oper}{o:Oper}{a:Act}{w:World}{Q:Exit->Act->World->Prop}(hg:o.guard=none)(m x:Operand)(t:TypeId)(hop:o.op= .lookup t m x true)
 (kt et:TypeId)(ht:P.underlying t=some (.map kt et))(hk:P.underlying kt=some (.int .u8))(hz:∀w,(zeroValue et).run P w= .ok (.int .u8 0) w)
 (r:Nat)(l:List (Int×Int))(hr:w.heap[r]? =some (JR l))(c:Int)(hm:a.eval m= .map (some r))(hx:a.eval x= .int .u8 c)
 (h:wpList P ops Q rest (a.put o.dst (.tuple #[.int .u8 ((JS c l).getD 0),.bool (JS c l).isSome])) w):wpList P ops Q (o::rest) a w:=
 wpList_plain hg fun K hK=>by
  unfold Oper.wp execOp;simp only[hop,hm,hx,Sem.run_bind,YdX ht hk hz w r l hr c,Result.andThen_ok,Sem.run_pure];exact hK _ _ h
theorem Ykr (w:World)(o o':Obj):({ w.alloc o with heap:=(w.alloc o).heap.setIfInBounds w.heap.size o' }:World)=w.alloc o':=by
 simp only[World.alloc];congr 1
 apply Array.ext_getElem?;intro i;rw[Array.getElem?_setIfInBounds,Array.getElem?_push,Array.getElem?_push];by_cases h:w.heap.size=i
 ·subst h; simp
 ·rw[if_neg h,if_neg (Ne.symm h),if_neg (Ne.symm h)]
theorem Yh7 (l:List (Int×Int))(k v:Int):JR (l++[(k,v)])= .map ((l.zipIdx.map entryOf).toArray.push { key:=.int .u8 k,val:=.int .u8 v,born:=l.length }) (l.length+1):=by
 simp[JR,List.zipIdx_append,entryOf]
theorem YcQ {P:Program}{t kt et:TypeId}(ht:P.underlying t=some (.map kt et))(hk:P.underlying kt=some (.int .u8))
 (w:World)(r:Nat)(l:List (Int×Int))(hr:w.heap[r]? =some (JR l))(k v:Int)(hn:JS k l=none):
 (Instr.mapUpdate t (.map (some r)) (.int .u8 k) (.int .u8 v)).run P w= .ok () { w with heap:=w.heap.setIfInBounds r (JR (l++[(k,v)])) }:=by
 obtain⟨q,hq,he⟩:=Ydd (P:=P) hk k l w;rw[hn] at he;have hq0:q=none:=by cases q with | none=>rfl | some x=>cases he
 subst hq0;have hg:(getObj r).run P w= .ok (JR l) w:=by simp[getObj,Sem.run,hr,JR]
 unfold Instr.mapUpdate;rw[Sem.run_bind,run_underlying ht w];simp only[Result.andThen_ok];rw[Sem.run_bind,hg];simp only[Result.andThen_ok,JR,Sem.run_bind,Ybh hk,hq];rw[show({ w with heap:=w.heap.setIfInBounds r (Obj.map ((l++[(k,v)]).zipIdx.map entryOf).toArray (l++[(k,v)]).length) }:World)={ w with heap:=w.heap.setIfInBounds r (JR (l++[(k,v)])) } from rfl,Yh7];simp[setObj,Sem.run,hr,JR]
theorem YW {P:Program}{ops:Array Oper}{rest:List Oper}{o:Oper}{a:Act}{w:World}{Q:Exit->Act->World->Prop}(hg:o.guard=none)(m x y:Operand)(t:TypeId)(hop:o.op= .insert t m x y)
 (kt et:TypeId)(ht:P.underlying t=some (.map kt et))(hk:P.underlying kt=some (.int .u8))(l:List (Int×Int))(k v:Int)(hm:a.eval m= .map (some w.heap.size))(hx:a.eval x= .int .u8 k)(hy:a.eval y= .int .u8 v)(hn:JS k l=none)
 (h:wpList P ops Q rest (a.put o.dst undef) (w.alloc (JR (l++[(k,v)])))):wpList P ops Q (o::rest) a (w.alloc (JR l)):=
 wpList_plain hg fun K hK=>by
  unfold Oper.wp execOp;simp only[hop,hm,hx,hy,Sem.run_bind,YcQ ht hk (w.alloc (JR l)) w.heap.size l (heap_alloc_new _ _) k v hn,Result.andThen_ok,Sem.run_pure,Ykr];exact hK _ _ h
structure Fr (w W:World)(rs:List (Array Value×TypeId)):Prop where
 row:∀k cs t,rs[k]? =some (cs,t)->W.heap[w.heap.size+k]? =some (.cells cs t (0,0))
 below:Below w.heap.size w W
theorem Keep.of_setRow (w:World)(g:Nat)(cs:Array Value):Keep (fun k=>k=g) w (w.setRow g cs):=⟨rfl,rfl,rfl,by simp,fun k _ n=>setRow_other _ _ _ _ n⟩
section
variable {w W W':World}{rs:List (Array Value×TypeId)}{cs:Array Value}{t:TypeId}{k:Nat}{v:Value}
theorem Fr.start (w:World):Fr w w []:=⟨fun k cs t h=>by simp at h,Below.refl _ _⟩
theorem Fr.lt (h:Fr w W rs)(hk:k<rs.length):w.heap.size+k<W.heap.size:=by
 rcases hq:rs[k] with⟨cs,t⟩;have:=h.row k cs t (by rw[List.getElem?_eq_getElem hk,hq]);exact(Zg this).1
theorem Fr.size (h:Fr w W rs):w.heap.size+rs.length<=W.heap.size:=by
 by_cases hz:rs.length=0
 ·have:=h.below.size; omega
 ·have:=h.lt (k:=rs.length - 1) Zo; omega
theorem Fr.keep {S:Nat->Prop}(h:Fr w W rs)(hK:Keep S W W')(hS:∀k,S k->w.heap.size+rs.length<=k):Fr w W' rs:=by
 have hs:=h.size;refine⟨fun k cs t hk=>?_,h.below.trans (hK.below h.below.size (fun i hi q=>by have:=hS i q; omega))⟩;have hl:=(List.getElem?_eq_some_iff.1 hk).1;have hlt:=h.lt hl;exact(hK.block _ hlt (fun q=>by have:=hS _ q; omega)).trans (h.row k cs t hk)
theorem Fr.next (h:Fr w W rs)(hb:Below W.heap.size W W'):Fr w W' rs:=h.keep (Keep.of_below (S:=fun _=>False) hb) (fun _ q=>q.elim)
theorem Fr.alloc (h:Fr w W rs)(hs:W.heap.size=w.heap.size+rs.length)(cs:Array Value)(t:TypeId):Fr w (W.alloc (.cells cs t)) (rs++[(cs,t)]):=by
 refine⟨fun k cs' t' hk=>?_,h.below.trans ((below_alloc1 W _).mono h.below.size)⟩;by_cases hl:k<rs.length
 ·rw[List.getElem?_append_left hl] at hk;exact(Below.heap_alloc W _ _ (h.lt hl)).trans (h.row k cs' t' hk)
 ·have hk2:=(List.getElem?_eq_some_iff.1 hk).1;have e:k=rs.length:=by rw[List.length_append,List.length_singleton] at hk2; omega
  subst e;rw[List.getElem?_append_right (Nat.le_refl _),Nat.sub_self] at hk;cases hk;rw[<-hs];exact heap_alloc_new W _
theorem Fr.setCell (h:Fr w W rs)(k o:Nat)(v:Value)(hk:rs[k]? =some (cs,t)):Fr w (W.setCell ⟨w.heap.size+k,o,none⟩ v) (rs.set k (cs.setIfInBounds o v,t)):=by
 have hK:=Keep.of_setCell W ⟨w.heap.size+k,o,none⟩ v;have hl:=(List.getElem?_eq_some_iff.1 hk).1;refine⟨fun j cs' t' hj=>?_,h.below.trans (hK.below h.below.size (fun i hi q=>by have:i=w.heap.size+k:=q; omega))⟩;rw[List.getElem?_set] at hj;by_cases e:k=j
 ·subst e;rw[if_pos rfl,if_pos hl] at hj;cases hj;have:=heap_setCell_same W (w.heap.size+k) o _ _ v (h.row k cs t hk);simpa using this
 ·rw[if_neg e] at hj;have hjl:=(List.getElem?_eq_some_iff.1 hj).1;exact(hK.block _ (h.lt hjl) (fun q=>by have:w.heap.size+j=w.heap.size+k:=q; omega)).trans (h.row j cs' t' hj)
theorem Fr.setRow (h:Fr w W rs)(k:Nat)(new:Array Value)(hk:rs[k]? =some (cs,t)):Fr w (W.setRow (w.heap.size+k) new) (rs.set k (new,t)):=by
 have hK:Keep (fun i=>i=w.heap.size+k) W (W.setRow (w.heap.size+k) new):=⟨rfl,rfl,rfl,by simp,fun k _ n=>setRow_other _ _ _ _ n⟩;have hl:=(List.getElem?_eq_some_iff.1 hk).1;refine⟨fun j cs' t' hj=>?_,h.below.trans (hK.below h.below.size (fun i hi q=>by have:i=w.heap.size+k:=q; omega))⟩;rw[List.getElem?_set] at hj;by_cases e:k=j
 ·subst e;rw[if_pos rfl,if_pos hl] at hj;cases hj;exact setRow_heap _ _ _ _ _ _ (h.row k cs t hk)
 ·rw[if_neg e] at hj;have hjl:=(List.getElem?_eq_some_iff.1 hj).1;exact(hK.block _ (h.lt hjl) (fun q=>by have:w.heap.size+j=w.heap.size+k:=q; omega)).trans (h.row j cs' t' hj)
theorem Fr.at (h:Fr w W rs)(k:Nat){b:Nat}(hb:w.heap.size+k=b)(hk:rs[k]? =some (cs,t)):W.heap[b]? =some (.cells cs t (0,0)):=by
 rw[<-hb]; exact h.row k cs t hk
theorem Fr.setCellAt (h:Fr w W rs)(k:Nat){b:Nat}(hb:w.heap.size+k=b)(o:Nat)(v:Value)(hk:rs[k]? =some (cs,t)):Fr w (W.setCell ⟨b,o,none⟩ v) (rs.set k (cs.setIfInBounds o v,t)):=by
 rw[<-hb]; exact h.setCell k o v hk
theorem Fr.setRowAt (h:Fr w W rs)(k:Nat){b:Nat}(hb:w.heap.size+k=b)(new:Array Value)(hk:rs[k]? =some (cs,t)):Fr w (W.setRow b new) (rs.set k (new,t)):=by
 rw[<-hb]; exact h.setRow k new hk
end
theorem row3 {W:World}{g:Nat}{a b c:Value}{t:TypeId}(h:W.heap[g]? =some (.cells #[a,b,c] t (0,0))):W.cell? ⟨g,0,none⟩=some a/\W.cell? ⟨g,1,none⟩=some b/\W.cell? ⟨g,2,none⟩=some c:=
 ⟨by simp[World.cell?,h],by simp[World.cell?,h],by simp[World.cell?,h]⟩
theorem frz3 {W:World}{g:Nat}{a b c:Value}{t:TypeId}(h:W.heap[g]? =some (.cells #[a,b,c] t (0,0))):W.frozen? ⟨g,0,none⟩=false/\W.frozen? ⟨g,1,none⟩=false/\W.frozen? ⟨g,2,none⟩=false:=
 ⟨by simp[World.frozen?,h],by simp[World.frozen?,h],by simp[World.frozen?,h]⟩
end Go.Proofs.YteamjdmhdfjopaaGreatDoor
