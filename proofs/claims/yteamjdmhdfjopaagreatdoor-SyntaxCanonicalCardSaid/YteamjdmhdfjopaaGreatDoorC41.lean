/- A part of the proof; it holds the texts Blf (names and blanks shortened). -/
import Derived.Test.YteamjdmhdfjopaaGreatDoorC11
import Derived.Test.YteamjdmhdfjopaaGreatDoorC6
namespace Go.Proofs.YteamjdmhdfjopaaGreatDoor
open Go.RowKit
set_option maxRecDepth 100000
set_option maxHeartbeats 8000000
set_option linter.unusedVariables false
set_option linter.unusedSimpArgs false
set_option linter.unnecessarySimpa false
theorem Yml {P:Program}(w:World)(base:Nat)(t u ty e:TypeId)(i:TypeInfo)(ht:P.underlying t=some (.slice e))(hu:P.underlying u=some .string)(hi:P.info? e=some i)(hz:i.zero=some (.int .u8 0))(hsize:i.size=1)(hby:i.bytes=1)
 (v:Value)(n:Nat)(xs:List Value)(hown:w.ownsRow base e 1 v n xs)(s:ByteArray)(h63:n+s.size<=maxLen)(hbytes:n+s.size<=140737488355328){v':Value}{w':World}(hr:(Builtin.append_ #[t,u] ty #[v,.string s]).run P w= .ok v' w')
 (h3:v'= .slice none 0 0↔v= .slice none 0 0/\s.size=0):v'.ownBlock=v.ownBlock\/v'.ownBlock=some w.heap.size:=by
 have hsmall:n+s.size<=9223372036854775807:=by simp only[maxLen] at h63; omega
 have hxl:xs.length=n:=by simpa using hown.1
 rcases hown.2 with⟨rfl,rfl⟩ | ⟨g,cap,cur,rfl,hbg,hg,hnc,hcm,hcs,htake⟩
 ·by_cases hm:s.size=0
  ·rw[h3.2 ⟨rfl,hm⟩]; exact .inl rfl
  ·rw[run_append_nil_string (P:=P) w t u ty e i (.int .u8 0) ht hu hi hz s Zo Zo (by rw[hby]; omega)] at hr;cases hr;exact .inr rfl
 ·by_cases hroom:n+s.size<=cap
  ·rw[Lib.run_append_room_string (P:=P) w t u ty e i ht hu hi hsize g n cap cur hg s hroom Zo] at hr;cases hr;exact .inl rfl
  ·rw[Lib.run_append_grow_string (P:=P) w t u ty e i (.int .u8 0) ht hu hi hz ⟨g,0,none⟩ n cap xs (by rw[hsize]; simpa using hxl) (hown.cells (g:=g) rfl) s Zo Zo (by rw[hby]; exact growslice_fits Zo Zo)] at hr;cases hr;exact .inr rfl
theorem YkW {P:Program}{w:World}{ops:Array Oper}{rest:List Oper}{o:Oper}{a:Act}{Q:Exit->Act->World->Prop}(hgd:o.guard=none)(sl x:Operand)(t u:TypeId)
 (ho:o.op= .call { callee:=.builtin .append,args:=#[sl,x],argTypes:=#[t,u] })
 (base:Nat)(e:TypeId)(i:TypeInfo)(ht:P.underlying t=some (.slice e))(hu:P.underlying u=some .string)(hi:P.info? e=some i)(hz:i.zero=some (.int .u8 0))
 (hsize:i.size=1)(hby:i.bytes=1)
 (v:Value)(n:Nat)(xs:List Value)(hs:a.eval sl=v)(hown:w.ownsRow base e 1 v n xs)(s:ByteArray)(hx:a.eval x= .string s)
 (h63:n+s.size<=maxLen)(hbytes:n+s.size<=140737488355328)(hbase:base<=w.heap.size)
 (h:∀v' w',w'.ownsRow base e 1 v' (n+s.size) (xs++Lib.strCells s)->w.grownBy w' v.ownBlock->(v'.ownBlock=v.ownBlock\/v'.ownBlock=some w.heap.size)->wpList P ops Q rest (a.put o.dst v') w'):wpList P ops Q (o::rest) a w:=by
 refine wpList_plain hgd fun K hK=>?_;obtain⟨v',w',hr,h2,h3,h4⟩:=Lib.run_append_own_string (P:=P) w base t u o.type e i ht hu hi hz hsize hby v n xs hown s h63 hbytes hbase;have hb:=Yml w base t u o.type e i ht hu hi hz hsize hby v n xs hown s h63 hbytes hr h4;unfold Oper.wp execOp;simp only[ho,resolve,invoke,builtin,Sem.run_bind,Sem.run_pure,Result.andThen_ok,List.map_toArray,List.map_cons,List.map_nil,hs,hx,hr];exact hK _ _ (h v' w' h2 h3 hb)
structure BldS (B b:Nat)(bs:List Value)(F:Nat->Prop)(W:World):Prop where
 ex:∃p v,W.heap[b]? =some (.cells #[p,v] 142 (0,0))/\(p= .pointer none\/p= .pointer (some ⟨b,0,none⟩))/\W.ownsRow B 5 1 v bs.length bs/\v.ownBlock≠some b/\(∀k,F k↔k=b\/v.ownBlock=some k)
 le:B<=b
section
variable {B B0 b:Nat}{bs:List Value}{F:Nat->Prop}{W W':World}
theorem BldS.isB (h:BldS B b bs F W):IsB B b bs W:=by
 obtain⟨p,v,h1,h2,h3,h4,_⟩:=h.ex;rcases h2 with rfl | rfl
 ·exact .inl ⟨h.le,v,h1,h3,h4⟩
 ·exact .inr ⟨h.le,v,h1,h3,h4⟩
theorem BldS.stab:Stab B0 F (BldS B b bs F):=by
 rintro X Y ⟨⟨p,v,h1,h2,h3,h4,h5⟩,hle⟩ hK;exact⟨⟨p,v,(hK.block _ (Zg h1).1 (fun q=>q.2 ((h5 b).2 (.inl rfl)))).trans h1,h2,hK.owns h3 (fun k e q=>q.2 ((h5 k).2 (.inr e))),h4,h5⟩,hle⟩
theorem BldS.lt (h:BldS B b bs F W):∀k,F k->k<W.heap.size:=by
 obtain⟨p,v,h1,_,h3,_,h5⟩:=h.ex;intro k hk;rcases(h5 k).1 hk with rfl | e
 ·exact(Zg h1).1
 ·exact(h3.lt k e).2
theorem BldS.low (h:BldS B b bs F W):∀k,F k->B<=k:=by
 obtain⟨p,v,_,_,h3,_,h5⟩:=h.ex;intro k hk;rcases(h5 k).1 hk with rfl | e
 ·exact h.le
 ·exact(h3.lt k e).1
end
theorem Yho (B b:Nat)(bs:List Value)(F:Nat->Prop)(s:ByteArray)(w:World)(h:BldS B b bs F w)(hlen:bs.length+s.size<=140737488355328)(hBw:B<=w.heap.size):
 Calls Tryz.prog 83 #[.pointer (some ⟨b,0,none⟩),.string s] w fun e w'=>e= .returned (.tuple #[.int .i64 s.size,.nilIface])/\∃F',BldS B b (bs++Lib.strCells s) F' w'/\Grow F F' w w':=by
 obtain⟨i0,hi,hz0,hz1,hz2⟩:=info_parts Yfe;have hcopy:Calls Tryz.prog 129 #[.pointer (some ⟨b,0,none⟩)] w fun e w1=>e= .returned (.tuple #[])/\∃v,w1.heap[b]? =some (.cells #[.pointer (some ⟨b,0,none⟩),v] 142 (0,0))/\w1.ownsRow B 5 1 v bs.length bs/\v.ownBlock≠some b/\(∀k,F k↔k=b\/v.ownBlock=some k)/\Keep (fun k=>k=b) w w1:=by
  obtain⟨p,v,h1,h2,h3,h4,h5⟩:=h.ex;rcases h2 with rfl | rfl
  ·have hB:Lib.BuilderAt 142 5 B b (.pointer none) bs w:=⟨h.le,v,h1,h3,h4⟩;refine(YdW b w hB.cell0 hB.shape hB.frozen0).mono ?_;rintro e w1 ⟨rfl,rfl⟩;have K:=Keep.of_setCell w ⟨b,0,none⟩ (.pointer (some ⟨b,0,none⟩));refine⟨rfl,v,?_,K.owns h3 (fun k e q=>h4 (by have q:k=b:=q; rw[<-q]; exact e)),h4,h5,K⟩;have:=heap_setCell_same w b 0 _ _ (.pointer (some ⟨b,0,none⟩)) h1;simpa using this
  ·have hB:Lib.BuilderAt 142 5 B b (.pointer (some ⟨b,0,none⟩)) bs w:=⟨h.le,v,h1,h3,h4⟩;refine(Yfq b w hB.cell0).mono ?_;rintro e w1 ⟨rfl,rfl⟩;exact⟨rfl,v,h1,h3,h4,h5,Keep.refl _ _⟩
 have hle:=h.le;have HC:=Zh hcopy;clear hcopy h;go_enter Tryz.func83,Tryz.ntmps83;go_wp2_with fail;refine HC.out.mono ?_;rintro e w1 ⟨rfl,v,hbk,hown,hne,hF,hK⟩;have c0:w1.cell? ⟨b,0,none⟩=some (.pointer (some ⟨b,0,none⟩)):=by simp[World.cell?,hbk]
 have c1:w1.cell? ⟨b,1,none⟩=some v:=by simp[World.cell?,hbk]
 have hsz:=hK.size;have HF:=Zh hF;have HK:=Zh hK;clear hF hK;go_wp2_with (at_builtin; refine YkW rfl _ _ 129 9 rfl B 5 i0 Tryz.underlying129 Tryz.underlying9 hi hz0 hz1 hz2 _ _ _ rfl hown s rfl (by unfold maxLen; omega) Zo Zo ?_);intro v' w2 hown' hgrow hat;have hlt:b<w1.heap.size:=(Zg hbk).1;have hb2:=(hgrow.block b hlt (fun e=>hne e.symm)).trans hbk;have d0:w2.cell? ⟨b,0,none⟩=some (.pointer (some ⟨b,0,none⟩)):=by simp[World.cell?,hb2]
 have d1:w2.cell? ⟨b,1,none⟩=some v:=by simp[World.cell?,hb2]
 have f1:w2.frozen? ⟨b,1,none⟩=false:=by simp[World.frozen?,hb2]
 have hgs:=hgrow.size;have hne':v'.ownBlock≠some b:=fun e=>by
  rcases hat with a | a
  ·exact hne (a.symm.trans e)
  ·rw[a] at e; cases e; omega
 obtain⟨ao,n',cap,rfl⟩:∃ao n' cap,v'= .slice ao n' cap:=by
  rcases hown'.2 with⟨hv,_⟩ | ⟨g,cap,cur,hv,_⟩
  ·exact⟨_,_,_,hv⟩
  ·exact⟨_,_,_,hv⟩
 have K2:=Keep.of_setCell w2 ⟨b,1,none⟩ (.slice ao n' cap);have hQ:∃F',BldS B b (bs++Lib.strCells s) F' (w2.setCell ⟨b,1,none⟩ (.slice ao n' cap))/\Grow F F' w (w2.setCell ⟨b,1,none⟩ (.slice ao n' cap)):=by
  refine⟨fun k=>k=b\/(Value.slice ao n' cap).ownBlock=some k,⟨⟨.pointer (some ⟨b,0,none⟩),.slice ao n' cap,?_,.inr rfl,?_,hne',fun k=>Iff.rfl⟩,hle⟩,⟨?_,?_,?_⟩⟩
  ·have:=heap_setCell_same w2 b 1 _ _ (.slice ao n' cap) hb2;simpa using this
  ·have:=K2.owns hown' (fun k e q=>hne' (by have q:k=b:=q; rw[<-q]; exact e));rw[List.length_append,Lib.strCells_length];exact this
  ·exact((HK.out.mono (fun k _ e=>(HF.out k).2 (.inl e))).trans (Keep.of_grown hgrow) (fun i _ e=>(HF.out i).2 (.inr e))).trans K2 (fun i _ e=>(HF.out i).2 (.inl e))
  ·rintro k (e | e)
   ·exact .inl ((HF.out k).2 (.inl e))
   ·rcases hat with a | a
    ·exact .inl ((HF.out k).2 (.inr (a.symm.trans e)))
    ·rw[a] at e; cases e; exact .inr Zo
  ·have hs2:=K2.size;rintro k (e | e)
   ·subst e; omega
   ·have:=(hown'.lt k e).2; omega
 have HQ:=Zh hQ;clear hQ K2 hown' hgrow hat hne' hb2;go_wp2;go_ret2
 exact⟨rfl,HQ.out⟩
end Go.Proofs.YteamjdmhdfjopaaGreatDoor
