/- A part of the proof; it holds the texts Scw (names and blanks shortened). -/
import Derived.Test.YteamjdmhdfjopaaGreatDoorC29
import Derived.RangeFuncOwn
import Derived.RangeFuncRecord
namespace Go.Proofs.YteamjdmhdfjopaaGreatDoor
open Go.RowKit
set_option maxRecDepth 100000
set_option maxHeartbeats 8000000
set_option linter.unusedVariables false
set_option linter.unusedSimpArgs false
set_option linter.unnecessarySimpa false
theorem Yql:(Tryz.prog.info? 136).map (fun i=>(i.zero,i.size,i.bytes))=some (some (.agg #[.int .i64 0,.string ⟨#[]⟩,.int .i64 0]),3,32):=by kernel_rfl
def Y4 (l:List Tk):List Value:=l.flatMap fun x=>[.int .i64 x.kind,.string x.text,.int .i64 x.at_]
theorem YhF (l:List Tk)(x:Tk):Y4 (l++[x])=Y4 l++[.int .i64 x.kind,.string x.text,.int .i64 x.at_]:=by simp[Y4]
structure J4 (w:World)(b p:Nat)(rec:Loop)(acc:List Tk)(W:World):Prop where
 below:Below w.heap.size w W
 r2:W.heap[w.heap.size]? =some (.cells #[.slice none 0 0] 66 (0,0))
 r3:W.heap[w.heap.size+1]? =some (.cells #[.pointer none] 123 (0,0))
 r4:W.heap[w.heap.size+2]? =some (.cells #[.nilIface] 125 (0,0))
 nm:W.heap[p]? =some (.cells #[.pointer (some ⟨b,0,none⟩)] 123 (0,0))
 out:∃vo,W.heap[p+1]? =some (.cells #[vo] 66 (0,0))/\W.ownsRow w.heap.size 136 3 vo acc.length (Y4 acc)/\(vo= .slice none 0 0↔acc=[])
 cb:W.heap[p+2]? =some (.cells #[.pointer (some ⟨b,0,none⟩)] 123 (0,0))
 mark:W.heap[p+3]? =some (.deferred (some []))
 loop:W.heap[p+4]? =some (.loop rec)
section
variable {B b p i:Nat}{s:ByteArray}{sp:List (Nat×Nat)}{v:Value}{w W W':World}{rec:Loop}{acc:List Tk}
theorem J4.gt (h:J4 w b p rec acc W):p+4<W.heap.size:=by obtain⟨q,_⟩:=Zg h.loop; exact q
theorem J4.step (h:J4 w b p rec acc W)(_hb:w.heap.size<=b)(hp:b<p)(hp3:w.heap.size+3<=b)(hA:Yk w.heap.size b s i sp v W)(hk:Yg b v W W'):J4 w b p rec acc W':=by
 clear _hb;have hgt:=h.gt;have hne:∀{k:Nat} {o:Obj},W.heap[k]? =some o->(∀c,o≠.cells c 134 (0,0))->¬v.ownBlock=some k:=fun hk ho e=>by
  obtain⟨c,hc⟩:=Yr hA.own e;rw[hc] at hk; cases hk; exact ho _ rfl
 have hkeep:∀{k:Nat} {o:Obj},W.heap[k]? =some o->k≠b->(∀c,o≠.cells c 134 (0,0))->W'.heap[k]? =some o:=fun hk' hkb ho=>by
  have hlt:=(Zg hk').1;exact(hk.block _ hlt (fun q=>q.elim hkb (hne hk' ho))).trans hk'
 obtain⟨vo,ho,hr,hn⟩:=h.out;refine⟨?_,hkeep h.r2 Zo (fun c e=>by cases e),hkeep h.r3 Zo (fun c e=>by cases e),hkeep h.r4 Zo (fun c e=>by cases e),hkeep h.nm Zo (fun c e=>by cases e),
  ⟨vo,hkeep ho Zo (fun c e=>by cases e),hk.owns hr (fun k e q=>?_),hn⟩,hkeep h.cb Zo (fun c e=>by cases e),hkeep h.mark Zo (fun c e=>by cases e),hkeep h.loop Zo (fun c e=>by cases e)⟩
 ·refine h.below.trans (hk.below h.below.size (fun k hk q=>?_));rcases q with q | q
  ·omega
  ·obtain⟨_,hq⟩:=hA.own;rcases hq with⟨rfl,_⟩ | ⟨g,cap,cur,rfl,hg,_⟩
   ·cases q
   ·simp only[Value.ownBlock,Option.some.injEq] at q; omega
 ·obtain⟨c,hc⟩:=Yr hr e;rcases q with q | q
  ·obtain⟨d,hd,_⟩:=hA.row;rw[<-q,hc] at hd; cases hd
  ·exact hne hc (fun c e=>by cases e) q
theorem J4.keep {S:Nat->Prop}{rec':Loop}(h:J4 w b p rec acc W)(hk:Keep S W W')(hS:∀k,S k->k≠w.heap.size/\k≠w.heap.size+1/\k≠w.heap.size+2/\k≠p/\k≠p+1/\k≠p+2/\k≠p+3)(hlo:∀k,k<w.heap.size->¬S k)
 (hown:∀vo,W.heap[p+1]? =some (.cells #[vo] 66 (0,0))->∀k,vo.ownBlock=some k->¬S k)(hrec:W'.heap[p+4]? =some (.loop rec')):J4 w b p rec' acc W':=by
 have hkeep:∀{k:Nat} {o:Obj},W.heap[k]? =some o->¬S k->W'.heap[k]? =some o:=fun hk' hkb=>by
  have hlt:=(Zg hk').1;exact(hk.block _ hlt hkb).trans hk'
 obtain⟨vo,ho,hr,hn⟩:=h.out;refine⟨h.below.trans (hk.below h.below.size hlo),hkeep h.r2 (fun q=>(hS _ q).1 rfl),hkeep h.r3 (fun q=>(hS _ q).2.1 rfl),hkeep h.r4 (fun q=>(hS _ q).2.2.1 rfl),hkeep h.nm (fun q=>(hS _ q).2.2.2.1 rfl),
  ⟨vo,hkeep ho (fun q=>(hS _ q).2.2.2.2.1 rfl),hk.owns hr (hown vo ho),hn⟩,hkeep h.cb (fun q=>(hS _ q).2.2.2.2.2.1 rfl),hkeep h.mark (fun q=>(hS _ q).2.2.2.2.2.2 rfl),hrec⟩
theorem Yk.keep {S:Nat->Prop}(h:Yk B b s i sp v W)(hk:Keep S W W')(hb:¬S b)(hv:∀k,v.ownBlock=some k->¬S k):Yk B b s i sp v W':=
 ⟨hk.row h.row hb,hk.owns h.own hv,h.le,h.few⟩
end
theorem Keep.putObj (w:World)(l:Nat)(o:Obj):Keep (fun k=>k=l) w (w.putObj l o):=
 ⟨rfl,rfl,rfl,by simp,fun k _ n=>World.putObj_heap_other n⟩
theorem J4.push {B b p i:Nat}{s:ByteArray}{sp:List (Nat×Nat)}{v vo v':Value}{w W w3:World}{rec:Loop}{acc:List Tk}{x:Tk}{o:Obj}
 (h:J4 w b p rec acc W)(hvo:W.heap[p+1]? =some (.cells #[vo] 66 (0,0)))(hb:w.heap.size+3<=b)(hp:b<p)(hA:Yk B b s i sp v W)
 (hown:w3.ownsRow w.heap.size 136 3 v' (acc.length+1) (Y4 acc++[.int .i64 x.kind,.string x.text,.int .i64 x.at_]))(hg:(W.alloc o).grownBy w3 vo.ownBlock):
 w3.heap[p+1]? =some (.cells #[vo] 66 (0,0))/\J4 w b p rec (acc++[x]) (w3.setCell ⟨p+1,0,none⟩ v')/\Yk B b s i sp v (w3.setCell ⟨p+1,0,none⟩ v'):=by
 obtain⟨vo',ho,hr,hn⟩:=h.out;have e:=hvo.symm.trans ho;simp only[Option.some.injEq,Obj.cells.injEq,Array.mk.injEq,List.cons.injEq,and_true] at e;obtain rfl:vo=vo':=by first | exact e | exact e.1
 have hgt:=h.gt;have hne:∀{k:Nat} {o:Obj},W.heap[k]? =some o->(∀c,o≠.cells c 136 (0,0))->¬vo.ownBlock=some k:=fun hk ho e=>by
  obtain⟨c,hc⟩:=Yr hr e;rw[hc] at hk; cases hk; exact ho _ rfl
 have hK3:Keep (fun k=>vo.ownBlock=some k) W w3:=Keep.trans (Keep.of_alloc (S:=fun k=>vo.ownBlock=some k) W o) (Keep.of_grown hg) (fun _ _ q=>q);have hkeep:∀{k:Nat} {o:Obj},W.heap[k]? =some o->(∀c,o≠.cells c 136 (0,0))->w3.heap[k]? =some o:=fun hk' ho=>by
  have hlt:=(Zg hk').1;exact(hK3.block _ hlt (hne hk' ho)).trans hk'
 have hbox:=hkeep hvo (fun c e=>by cases e);have hset:(w3.setCell ⟨p+1,0,none⟩ v').heap[p+1]? =some (.cells #[v'] 66 (0,0)):=by
  have:=heap_setCell_same w3 (p+1) 0 _ _ v' hbox;simpa using this
 have hK4:=Keep.of_setCell w3 ⟨p+1,0,none⟩ v';have hkeep4:∀{k:Nat} {o:Obj},W.heap[k]? =some o->(∀c,o≠.cells c 136 (0,0))->k≠p+1->(w3.setCell ⟨p+1,0,none⟩ v').heap[k]? =some o:=fun hk' ho hne=>by
  have h3:=hkeep hk' ho;exact(hK4.block _ (Zg h3).1 hne).trans h3
 refine⟨hbox,⟨?_,hkeep4 h.r2 (fun c e=>by cases e) Zo,hkeep4 h.r3 (fun c e=>by cases e) Zo,hkeep4 h.r4 (fun c e=>by cases e) Zo,hkeep4 h.nm (fun c e=>by cases e) Zo,
  ⟨v',hset,?_,?_⟩,hkeep4 h.cb (fun c e=>by cases e) Zo,hkeep4 h.mark (fun c e=>by cases e) Zo,hkeep4 h.loop (fun c e=>by cases e) Zo⟩,?_⟩
 ·refine(h.below.trans (hK3.below h.below.size (fun k hk q=>?_))).setCell (p:=⟨p+1,0,none⟩) (by show w.heap.size<=p+1; omega) v';have:=(hr.lt k q).1; omega
 ·rw[YhF,List.length_append,List.length_singleton];refine hK4.owns hown (fun k e q=>?_);obtain⟨c,hc⟩:=Yr hown e;subst q;rw[hbox] at hc; cases hc
 ·constructor
  ·rintro rfl;rcases hown.2 with⟨_,h0⟩ | ⟨g,cap,cur,hv,_⟩
   ·omega
   ·cases hv
  ·intro e; simp at e
 ·have hKs:Keep (fun k=>vo.ownBlock=some k\/k=p+1) W (w3.setCell ⟨p+1,0,none⟩ v'):=Keep.trans (hK3.mono (fun _ _ q=>.inl q)) hK4 (fun _ _ q=>.inr q);refine hA.keep hKs (fun q=>?_) (fun k e q=>?_)
  ·rcases q with q | q
   ·obtain⟨d,hd,_⟩:=hA.row;exact hne hd (fun c e=>by cases e) q
   ·omega
  ·obtain⟨c,hc⟩:=Yr hA.own e;rcases q with q | q
   ·exact hne hc (fun c e=>by cases e) q
   ·subst q; rw[hvo] at hc; cases hc
end Go.Proofs.YteamjdmhdfjopaaGreatDoor
