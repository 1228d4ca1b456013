/- A part of the proof; it holds the texts Eqc Eqd Rfy (names and blanks shortened). -/
import Derived.Test.YteamjdmhdfjopaaGreatDoorC34
import Derived.Test.YteamjdmhdfjopaaGreatDoorC35
import Derived.Test.YteamjdmhdfjopaaGreatDoorC33
import Derived.StillTailTactics
import Derived.Test.YteamjdmhdfjopaaGreatDoorC11
namespace Go.Proofs.YteamjdmhdfjopaaGreatDoor
open Go.RowKit
set_option maxRecDepth 100000
set_option maxHeartbeats 8000000
set_option linter.unusedVariables false
set_option linter.unusedSimpArgs false
set_option linter.unnecessarySimpa false
theorem Yc8:∀(l:List (Ts×Ts)),JU l->∀x∈l,x.1.nodes<=1000000000000/\x.2.nodes<=1000000000000
 |[],_,x,hx=>by simp at hx
 |
  y::l,h,x,hx=>by
  rcases List.mem_cons.1 hx with rfl | hx
  ·exact⟨h.1.1,h.2.1.1⟩
  ·exact Yc8 l h.2.2 x hx
theorem Yiw:(Tryz.prog.info? 39).map (·.size)=some 5:=by kernel_rfl
theorem YnJ (S:Nat->Prop)(left right subject:Ts)(tests:List (Ts×Ts))(block:Ss)(v0 v1 v2 v3 v4 u0 u1 u2 u3 u4:Value)(w:World)
 (h0:TsV w S v0 left)(h1:Y3 w S v1 tests)(h2:TsV w S v2 right)(h3:TsV w S v3 subject)(h4:SsV w S v4 block)(q0:TsV w S u0 left)(q1:Y3 w S u1 tests)(q2:TsV w S u2 right)(q3:TsV w S u3 subject)(q4:SsV w S u4 block)
 (hS:∀k,S k->k<w.heap.size)(n0:left.nodes<=1000000000000)(n1:JU tests/\tests.length<=1000000000000)(n2:right.nodes<=1000000000000)(n3:subject.nodes<=1000000000000)
 (IH:∀(va vb:Value) (W:World),SsV W S va block->SsV W S vb block->(∀k,S k->k<W.heap.size)->Calls Tryz.prog 74 #[va,vb,.func (.func 75) #[] #[]] W fun e w'=>e= .returned (.bool true)/\Below W.heap.size W w'):
 Calls Tryz.prog 75 #[.agg #[v0,v1,v2,v3,v4],.agg #[u0,u1,u2,u3,u4]] w fun e w'=>e= .returned (.bool true)/\Below w.heap.size w w':=by
 obtain⟨a0,c0,rfl⟩:=h0.form;obtain⟨a1,c1,rfl⟩:=YgM h1;obtain⟨a2,c2,rfl⟩:=h2.form;obtain⟨a3,c3,rfl⟩:=h3.form;obtain⟨a4,c4,rfl⟩:=Ydy h4;obtain⟨b0,d0,rfl⟩:=q0.form;obtain⟨b1,d1,rfl⟩:=YgM q1;obtain⟨b2,d2,rfl⟩:=q2.form;obtain⟨b3,d3,rfl⟩:=q3.form;obtain⟨b4,d4,rfl⟩:=Ydy q4;have HV:=Zh (And.intro h0 (And.intro h1 (And.intro h2 (And.intro h3 h4))));have HU:=Zh (And.intro q0 (And.intro q1 (And.intro q2 (And.intro q3 q4))));have HI:Hid _:=IH;have HN:=Zh n1;clear h0 h1 h2 h3 h4 q0 q1 q2 q3 q4 IH n1;go_enter Tryz.func75,Tryz.ntmps75;go_wp2_with fail;generalize hW1:World.alloc (World.alloc w _) _=W1;obtain⟨r0,r1,hb1,_⟩:=Yhz w (.cells #[.slice a0 left.len c0,.slice a1 tests.length c1,.slice a2 right.len c2,.slice a3 subject.len c3,.slice a4 block.len c4] 39) (.cells #[.slice b0 left.len d0,.slice b1 tests.length d1,.slice b2 right.len d2,.slice b3 subject.len d3,.slice b4 block.len d4] 39);rw[hW1] at r0 r1 hb1;clear hW1;refine(YiI S tests _ _ W1 (HV.out.2.1.keep (w':=W1) (fun k hk q=>hb1.block k q) (fun k q _=>q)) (HU.out.2.1.keep (w':=W1) (fun k hk q=>hb1.block k q) (fun k q _=>q)) (Yc8 tests HN.out.1) (fun k hk=>Nat.lt_of_lt_of_le (hS k hk) hb1.size) HN.out.2).mono ?_;rintro e W2 ⟨rfl,hb2⟩;have r0:=(hb2.block _ (Zg r0).1).trans r0;have r1:=(hb2.block _ (Zg r1).1).trans r1;have hbW:=hb1.trans (hb2.mono hb1.size);clear hb1 hb2;obtain⟨x0,x1,x2,x3,x4⟩:=row5 r0;obtain⟨y0,y1,y2,y3,y4⟩:=row5 r1;go_wp2_with fail;have hb3:=below_alloc1 W2 (.cells #[.slice a0 left.len c0,.slice b0 left.len d0,.slice a2 right.len c2,.slice b2 right.len d2,.slice a3 subject.len c3,.slice b3 subject.len d3] 187);have hn:=heap_alloc_new W2 (.cells #[.slice a0 left.len c0,.slice b0 left.len d0,.slice a2 right.len c2,.slice b2 right.len d2,.slice a3 subject.len c3,.slice b3 subject.len d3] 187);have hz:W2.heap.size<(W2.alloc (.cells #[.slice a0 left.len c0,.slice b0 left.len d0,.slice a2 right.len c2,.slice b2 right.len d2,.slice a3 subject.len c3,.slice b3 subject.len d3] 187)).heap.size:=Zs;generalize World.alloc W2 _=W3 at hb3 hn hz⊢;have hb23:=hbW.trans (hb3.mono hbW.size);have r0:=(hb3.block _ (Zg r0).1).trans r0;have r1:=(hb3.block _ (Zg r1).1).trans r1;have up:∀{v:Value} {T:Ts},TsV w S v T->TsV W3 (fun k=>S k\/k=W2.heap.size) v T:=fun h=>h.keep (fun k hk q=>hb23.block k q) (fun k q _=>.inl q);have k0:W3.cell? ⟨W2.heap.size,0,none⟩=some (.slice a0 left.len c0):=by simp[World.cell?,hn]
 have k1:W3.cell? ⟨W2.heap.size,0+1,none⟩=some (.slice b0 left.len d0):=by simp[World.cell?,hn]
 have k2:W3.cell? ⟨W2.heap.size,0+2,none⟩=some (.slice a2 right.len c2):=by simp[World.cell?,hn]
 have k3:W3.cell? ⟨W2.heap.size,0+2+1,none⟩=some (.slice b2 right.len d2):=by simp[World.cell?,hn]
 have k4:W3.cell? ⟨W2.heap.size,0+2+2,none⟩=some (.slice a3 subject.len c3):=by simp[World.cell?,hn]
 have k5:W3.cell? ⟨W2.heap.size,0+2+2+1,none⟩=some (.slice b3 subject.len d3):=by simp[World.cell?,hn]
 refine(Yea (fun k=>S k\/k=W2.heap.size) [(left,left),(right,right),(subject,subject)] _ W3 ⟨some ⟨W2.heap.size,0,none⟩,3,rfl,fun _=>⟨_,_,rfl,.inr rfl,Ye0 k0 k1 (up HV.out.1) (up HU.out.1) (Ye0 k2 k3 (up HV.out.2.2.1) (up HU.out.2.2.1) (Ye0 k4 k5 (up HV.out.2.2.2.1) (up HU.out.2.2.2.1) trivial))⟩⟩ ?_ (fun k hk=>hk.elim (fun h=>Nat.lt_of_lt_of_le (hS k h) hb23.size) (fun h=>by rw[h]; exact hz)) Zs).mono ?_
 ·intro x hx;simp only[List.mem_cons,List.not_mem_nil,or_false] at hx;rcases hx with rfl | rfl | rfl
  ·exact⟨rfl,n0⟩
  ·exact⟨rfl,n2⟩
  ·exact⟨rfl,n3⟩
 rintro e W4 ⟨rfl,hb4⟩;have r0:=(hb4.block _ (Zg r0).1).trans r0;have r1:=(hb4.block _ (Zg r1).1).trans r1;have hbX:=hb23.trans (hb4.mono hb23.size);clear hb3 hb4 hb23 hn hz k0 k1 k2 k3 k4 k5 up hbW x0 x1 x2 x3 x4 y0 y1 y2 y3 y4;obtain⟨x0,x1,x2,x3,x4⟩:=row5 r0;obtain⟨y0,y1,y2,y3,y4⟩:=row5 r1;have hE:=HI.out _ _ W4 (HV.out.2.2.2.2.keep (w':=W4) (T:=S) (fun k hk q=>hbX.block k q) (fun k q _=>q)) (HU.out.2.2.2.2.keep (w':=W4) (T:=S) (fun k hk q=>hbX.block k q) (fun k q _=>q)) (fun k hk=>Nat.lt_of_lt_of_le (hS k hk) hbX.size);have HE:=Zh hE;clear hE r0 r1;go_wp2_with fail;refine HE.out.mono ?_;rintro e W5 ⟨rfl,hb5⟩;have HB5:=Zh (hbX.trans (hb5.mono hbX.size));clear hb5 hbX HE x0 x1 x2 x3 x4 y0 y1 y2 y3 y4;go_wp2;go_ret;exact⟨rfl,HB5.out⟩
theorem YiJ:∀(m:Nat) (A:Ss) (va vb:Value) (w:World),A.sz<m->SsV w (fun k=>k<w.heap.size) va A->SsV w (fun k=>k<w.heap.size) vb A->A.fine->A.len<=1000000000000->
 Calls Tryz.prog 74 #[va,vb,.func (.func 75) #[] #[]] w fun e w'=>e= .returned (.bool true)/\Below w.heap.size w w':=by
 intro m;induction m with
 |zero=>intro A va vb w hm; omega
 |
  succ m ih=>
  intro A va vb w hm hA hB hfine hbig;obtain⟨ao,ca,rfl,htA⟩:=hA;obtain⟨bo,cb,rfl,htB⟩:=hB;have IH:Hid _:=ih;have HM:=Zh hm;have HS0:Hid (SmS A ao bo w w 0 A):=Zh ⟨Nat.zero_add _,fun h=>by obtain⟨g,o,e,hS,hat⟩:=htA h; exact⟨g,o,e,hS,by simpa using hat⟩,fun h=>by obtain⟨g,o,e,hS,hat⟩:=htB h; exact⟨g,o,e,hS,by simpa using hat⟩,Below.refl _ _,hfine,Nat.le_refl _⟩;clear ih hm htA htB hfine;go_enter Tryz.func74,Tryz.ntmps74;go_wp2_with fail;go_loopw [17] (fun i wr=>∃(k:Nat) (ra:Ss),i= .int .i64 k/\Hid (SmS A ao bo w wr k ra)) (fun i _=>A.len - (intOf i).toNat)
  case atStart=>exact⟨0,A,rfl,HS0⟩
  case round=>
   clear HS0;obtain⟨k,ra,rfl,HS⟩:=hrel;have hlA:=HS.out.len;cases ra with
   |
    nil=>
    have hk:k=A.len:=by simpa[Ss.len] using hlA
    have l0:decide ((k:Int)<(A.len:Int))=false:=Zf;have l1:decide (k<A.len)=false:=Zf;clear hk hlA;go_wp2_with fail;go_ret;exact⟨rfl,HS.out.below⟩
   |
    cons left tests right subject block rest=>
    simp only[Ss.len] at hlA;have l0:decide ((k:Int)<(A.len:Int))=true:=Zt;have l1:decide (k<A.len)=true:=Zt;obtain⟨g,o,rfl,hg,⟨v0,a0,h0⟩,⟨v1,a1,h1⟩,⟨v2,a2,h2⟩,⟨v3,a3,h3⟩,⟨a4o,a4c,a4,hbA⟩,hrA⟩:=HS.out.tailA (fun q=>by cases q);obtain⟨h,p,rfl,hh,⟨u0,b0,q0⟩,⟨u1,b1,q1⟩,⟨u2,b2,q2⟩,⟨u3,b3,q3⟩,⟨b4o,b4c,b4,hbB⟩,hrB⟩:=HS.out.tailB (fun q=>by cases q);have hb4:SsV wr (fun k=>k<w.heap.size) (.slice a4o block.len a4c) block:=⟨a4o,a4c,rfl,hbA⟩;have hc4:SsV wr (fun k=>k<w.heap.size) (.slice b4o block.len b4c) block:=⟨b4o,b4c,rfl,hbB⟩;obtain⟨ao0,ca0,rfl⟩:=h0.form;obtain⟨ao1,ca1,rfl⟩:=YgM h1;obtain⟨ao2,ca2,rfl⟩:=h2.form;obtain⟨ao3,ca3,rfl⟩:=h3.form;obtain⟨bo0,cb0,rfl⟩:=q0.form;obtain⟨bo1,cb1,rfl⟩:=YgM q1;obtain⟨bo2,cb2,rfl⟩:=q2.form;obtain⟨bo3,cb3,rfl⟩:=q3.form;have HV:=Zh (And.intro h0 (And.intro h1 (And.intro h2 (And.intro h3 hb4))));have HU:=Zh (And.intro q0 (And.intro q1 (And.intro q2 (And.intro q3 hc4))));have HR:=Zh (And.intro hrA hrB);have HFI:=Zh HS.out.fine;clear h0 h1 h2 h3 q0 q1 q2 q3 hbA hbB hrA hrB hb4 hc4;have hsz:=HS.out.below.size;have hgw:g<wr.heap.size:=Zo;have hhw:h<wr.heap.size:=Zo;go_wp2_with (first
     |(
       refine wpList_store_row rfl 39 (.tmp 8) (.tmp 21) rfl wr.heap.size _ rfl rfl 39 #[.slice none 0 0,.slice none 0 0,.slice none 0 0,.slice none 0 0,.slice none 0 0] (heap_alloc_new wr _) Yiw rfl (by simp[Value.oneCell']) ?_;obtain⟨hb1,hn1,hz1⟩:=YdG wr 39 #[.slice none 0 0,.slice none 0 0,.slice none 0 0,.slice none 0 0,.slice none 0 0] #[.slice ao0 left.len ca0,.slice ao1 tests.length ca1,.slice ao2 right.len ca2,.slice ao3 subject.len ca3,.slice a4o block.len a4c];have HZ1:=Zh hz1;clear hz1;generalize World.setRow (World.alloc wr _) _ _=V at hb1 hn1 HZ1⊢;have b0:=(hb1.cell hhw).trans b0;have b1:=(hb1.cell hhw).trans b1;have b2:=(hb1.cell hhw).trans b2;have b3:=(hb1.cell hhw).trans b3;have b4:=(hb1.cell hhw).trans b4)
     |(
       refine wpList_store_row rfl 39 (.tmp 9) (.tmp 25) rfl V.heap.size _ rfl rfl 39 #[.slice none 0 0,.slice none 0 0,.slice none 0 0,.slice none 0 0,.slice none 0 0] (heap_alloc_new V _) Yiw rfl (by simp[Value.oneCell']) ?_;obtain⟨hb2,hn2,hz2⟩:=YdG V 39 #[.slice none 0 0,.slice none 0 0,.slice none 0 0,.slice none 0 0,.slice none 0 0] #[.slice bo0 left.len cb0,.slice bo1 tests.length cb1,.slice bo2 right.len cb2,.slice bo3 subject.len cb3,.slice b4o block.len b4c];have HZ2:=Zh hz2;clear hz2;generalize World.setRow (World.alloc V _) _ _=V2 at hb2 hn2 HZ2⊢;obtain⟨r0,r1,r2,r3,r4⟩:=row5 ((hb2.block _ (by have:=HZ1.out; omega)).trans hn1);obtain⟨s0,s1,s2,s3,s4⟩:=row5 hn2))
    have hb12:=hb1.trans (hb2.mono (by have:=HZ1.out; omega));have kp:∀k,k<w.heap.size->k<wr.heap.size->V2.heap[k]? =wr.heap[k]?:=fun k _ q=>hb12.block k q;have hz12:=hb12.size;refine(YnJ (fun k=>k<w.heap.size) left right subject tests block _ _ _ _ _ _ _ _ _ _ V2 (HV.out.1.keep kp (fun k q _=>q)) (HV.out.2.1.keep kp (fun k q _=>q)) (HV.out.2.2.1.keep kp (fun k q _=>q)) (HV.out.2.2.2.1.keep kp (fun k q _=>q)) (HV.out.2.2.2.2.keep (T:=fun k=>k<w.heap.size) kp (fun k q _=>q))
     (HU.out.1.keep kp (fun k q _=>q)) (HU.out.2.1.keep kp (fun k q _=>q)) (HU.out.2.2.1.keep kp (fun k q _=>q)) (HU.out.2.2.2.1.keep kp (fun k q _=>q)) (HU.out.2.2.2.2.keep (T:=fun k=>k<w.heap.size) kp (fun k q _=>q)) (fun k hk=>by omega) HFI.out.1.1 HFI.out.2.1 HFI.out.2.2.1.1 HFI.out.2.2.2.1.1
     (fun va vb W hva hvb hlt=>IH.out block va vb W (by have h1:=HM.out; have h2:=HS.out.sz; simp only[Ss.sz] at h2; omega) (hva.keep (w':=W) (T:=fun k=>k<W.heap.size) (fun _ _ _=>rfl) (fun k _ q=>q)) (hvb.keep (w':=W) (T:=fun k=>k<W.heap.size) (fun _ _ _=>rfl) (fun k _ q=>q)) HFI.out.2.2.2.2.1.1 HFI.out.2.2.2.2.1.2)).mono ?_
    rintro e w3 ⟨rfl,hb3⟩;have HB3:=Zh (hb12.trans (hb3.mono hb12.size));clear hb1 hb2 hb12 hb3 hn1 hn2 r0 r1 r2 r3 r4 s0 s1 s2 s3 s4 b0 b1 b2 b3 b4 kp;have HREL2:Hid (SmS A (some ⟨g,o,none⟩) (some ⟨h,p,none⟩) w w3 (k+1) rest):=Zh ⟨by omega,fun hn=>⟨g,o,rfl,hg,by rw[show o+(k+1)*5=o+k*5+5 by omega]; exact Ss.at_keep rest g _ (.inl hg) HR.out.1 (fun k _ hk=>HB3.out.block k hk) (fun k q _=>q)⟩,fun hn=>⟨h,p,rfl,hh,by rw[show p+(k+1)*5=p+k*5+5 by omega]; exact Ss.at_keep rest h _ (.inl hh) HR.out.2 (fun k _ hk=>HB3.out.block k hk) (fun k q _=>q)⟩,HS.out.below.trans (HB3.out.mono hsz),HFI.out.2.2.2.2.2,by have:=HS.out.sz; simp only[Ss.sz] at this; omega⟩;go_wp2_with fail;go_roundw
    case rel=>exact⟨k+1,rest,by go_num,HREL2⟩
    case measure=>simp[intOf]; omega
theorem Ynw:(Tryz.prog.info? 63).map (·.size)=some 3:=by kernel_rfl
theorem YfF (l:List ByteArray)(S:Nat->Prop)(va vb:Value)(w:World)(hA:JG w S va l)(hB:JG w S vb l)(hbig:l.length<=1000000000000):
 Calls Tryz.prog 39 #[va,vb] w fun e w'=>e= .returned (.bool true)/\∃q,w'=w.drewN q:=by
 obtain⟨ao,ca,rfl,htA⟩:=hA;obtain⟨bo,cb,rfl,htB⟩:=hB;by_cases hl:l=[]
 ·subst hl;refine(Tryz.slices_Equal_string_empty ao bo ca 0 cb w Zd).mono ?_;rintro e w' ⟨rfl,rfl⟩;exact⟨rfl,0,rfl⟩
 ·obtain⟨g,o,rfl,hg,hat,_⟩:=htA hl;obtain⟨h,p,rfl,hh,hbt,_⟩:=htB hl;have gd:∀j (hj:j<l.length),l.getD j ByteArray.empty=l[j]:=fun j hj=>by simp[List.getD,hj]
  refine(Tryz.slices_Equal_string g o l.length ca h p l.length cb l l w (Nat.le_refl _) (Nat.le_refl _) Zo Zo (fun j hj=>by rw[gd j hj]; exact strs_get l g o j hat hj) (fun j hj=>by rw[gd j hj]; exact strs_get l h p j hbt hj)).mono ?_;rintro e w' ⟨rfl,q⟩;exact⟨by rw[decide_eq_true rfl],q⟩
theorem YnK (f:Fn)(va vb:Value)(w:World)(hA:SsV w (fun k=>k<w.heap.size) va f.sents)(hB:SsV w (fun k=>k<w.heap.size) vb f.sents)(h1:f.sents.fine)(h2:f.sents.len<=1000000000000):
 Calls Tryz.prog 73 #[.agg #[.string f.name,.bool f.entry,va],.agg #[.string f.name,.bool f.entry,vb]] w fun e w'=>e= .returned (.bool true)/\Below w.heap.size w w':=by
 have hE:=fun(W:World) (hb:Below w.heap.size w W)=>YiJ (f.sents.sz+1) f.sents va vb W Zo (hA.keep (w':=W) (T:=fun k=>k<W.heap.size) (fun k _ q=>hb.block k q) (fun k q _=>Nat.lt_of_lt_of_le q hb.size)) (hB.keep (w':=W) (T:=fun k=>k<W.heap.size) (fun k _ q=>hb.block k q) (fun k q _=>Nat.lt_of_lt_of_le q hb.size)) h1 h2;obtain⟨sa,sc,rfl⟩:=Ydy hA;obtain⟨sb,sd,rfl⟩:=Ydy hB;have HE:=Zh hE;have e1:(f.name.toList==f.name.toList)=true:=Zs;have e2:(f.entry==f.entry)=true:=Zs;clear hE hA hB h1 h2;generalize f.sents=X at HE⊢;generalize f.name=nm at e1⊢;generalize f.entry=en at e2⊢;go_enter Tryz.func73,Tryz.ntmps73;go_wp2_with fail;generalize hW1:World.alloc (World.alloc w _) _=W1;have hb1:Below w.heap.size w W1:=by rw[<-hW1]; exact(below_alloc1 w _).alloc Zs _
 clear hW1;refine(HE.out W1 hb1).mono ?_;rintro e W2 ⟨rfl,hb2⟩;have HB:=Zh (hb1.trans (hb2.mono hb1.size));clear hb1 hb2 HE;go_wp2;go_ret;exact⟨rfl,HB.out⟩
theorem YlA (A:List Fn)(va vb:Value)(w:World)(hA:YaV w (fun k=>k<w.heap.size) va A)(hB:YaV w (fun k=>k<w.heap.size) vb A)(hf:∀f∈A,f.sents.fine/\f.sents.len<=1000000000000)(hbig:A.length<=1000000000000):
 Calls Tryz.prog 72 #[va,vb,.func (.func 73) #[] #[]] w fun e w'=>e= .returned (.bool true)/\Below w.heap.size w w':=by
 obtain⟨ao,ca,rfl,htA⟩:=hA;obtain⟨bo,cb,rfl,htB⟩:=hB;have HTA:=Zh htA;have HTB:=Zh htB;have HFF:=Zh hf;clear htA htB hf;go_enter Tryz.func72,Tryz.ntmps72;go_wp2_with fail;go_loopw [17] (fun i wr=>∃k:Nat,i= .int .i64 k/\k<=A.length/\Hid (Below w.heap.size w wr)) (fun i _=>A.length - (intOf i).toNat)
 case atStart=>exact⟨0,rfl,Nat.zero_le _,Zh (Below.refl _ _)⟩
 case round=>
  obtain⟨k,rfl,hk,HB⟩:=hrel;by_cases hkl:k<A.length
  ·have l0:decide ((k:Int)<(A.length:Int))=true:=Zt;have l1:decide (k<A.length)=true:=decide_eq_true hkl;have hne:A≠[]:=fun q=>by rw[q] at hkl; cases hkl
   obtain⟨g,o,rfl,hg,hat⟩:=HTA.out hne;obtain⟨h,p,rfl,hh,hbt⟩:=HTB.out hne;obtain⟨a0,a1,va2,a2,ha2⟩:=Yb9 A g o k (Ya1 A g o (.inl hg) hat (fun k _ hk=>HB.out.block k hk) (fun k q _=>q)) hkl;obtain⟨b0,b1,vb2,b2,hb2⟩:=Yb9 A h p k (Ya1 A h p (.inl hh) hbt (fun k _ hk=>HB.out.block k hk) (fun k q _=>q)) hkl;obtain⟨f1,f2⟩:=HFF.out A[k] (List.getElem_mem hkl);have hsz:=HB.out.size;have hgw:g<wr.heap.size:=Zo;have hhw:h<wr.heap.size:=Zo;have HSm:=Zh (fun(W:World) (hb:Below wr.heap.size wr W)=>YnK A[k] va2 vb2 W (ha2.keep (T:=fun k=>k<W.heap.size) (fun k _ hk=>hb.block k hk) (fun k q _=>Nat.lt_of_lt_of_le q (Nat.le_trans hsz hb.size))) (hb2.keep (T:=fun k=>k<W.heap.size) (fun k _ hk=>hb.block k hk) (fun k q _=>Nat.lt_of_lt_of_le q (Nat.le_trans hsz hb.size))) f1 f2);obtain⟨sa,sc,rfl⟩:=Ydy ha2;obtain⟨sb,sd,rfl⟩:=Ydy hb2;clear ha2 hb2 hat hbt f1 f2;generalize A[k]=f at a0 a1 a2 b0 b1 b2 HSm;go_wp2_with (first
    |(
      refine wpList_store_row rfl 63 (.tmp 8) (.tmp 21) rfl wr.heap.size _ rfl rfl 63 #[.string ⟨#[]⟩,.bool false,.slice none 0 0] (heap_alloc_new wr _) Ynw rfl (by simp[Value.oneCell']) ?_;obtain⟨hb1,hn1,hz1⟩:=YdG wr 63 #[.string ⟨#[]⟩,.bool false,.slice none 0 0] #[.string f.name,.bool f.entry,.slice sa f.sents.len sc];have HZ1:=Zh hz1;clear hz1;generalize World.setRow (World.alloc wr _) _ _=V at hb1 hn1 HZ1⊢;have b0:=(hb1.cell hhw).trans b0;have b1:=(hb1.cell hhw).trans b1;have b2:=(hb1.cell hhw).trans b2)
    |(
      refine wpList_store_row rfl 63 (.tmp 9) (.tmp 25) rfl V.heap.size _ rfl rfl 63 #[.string ⟨#[]⟩,.bool false,.slice none 0 0] (heap_alloc_new V _) Ynw rfl (by simp[Value.oneCell']) ?_;obtain⟨hb2,hn2,hz2⟩:=YdG V 63 #[.string ⟨#[]⟩,.bool false,.slice none 0 0] #[.string f.name,.bool f.entry,.slice sb f.sents.len sd];have HZ2:=Zh hz2;clear hz2;generalize World.setRow (World.alloc V _) _ _=V2 at hb2 hn2 HZ2⊢;obtain⟨r0,r1,r2⟩:=row3 ((hb2.block _ (by have:=HZ1.out; omega)).trans hn1);obtain⟨s0,s1,s2⟩:=row3 hn2))
   have hb12:=hb1.trans (hb2.mono (by have:=HZ1.out; omega));refine(HSm.out V2 hb12).mono ?_;rintro e w3 ⟨rfl,hb3⟩;have HB3:=Zh (HB.out.trans ((hb12.trans (hb3.mono hb12.size)).mono hsz));clear HSm hb1 hb2 hb12 hb3 hn1 hn2 r0 r1 r2 s0 s1 s2 b0 b1 b2;go_wp2_with fail;go_roundw
   case rel=>exact⟨k+1,by go_num,by omega,HB3⟩
   case measure=>simp[intOf]; omega
  ·have l0:decide ((k:Int)<(A.length:Int))=false:=Zf;have l1:decide (k<A.length)=false:=decide_eq_false hkl;go_wp2_with fail;go_ret;exact⟨rfl,HB.out⟩
theorem YbU (m:Md)(ve vf ue uf:Value)(w:World)(hA:MdV w (fun k=>k<w.heap.size) ve vf m)(hB:MdV w (fun k=>k<w.heap.size) ue uf m)(hf:m.fine):
 Calls Tryz.prog 30 #[.agg #[ve,vf],.agg #[ue,uf]] w fun e w'=>e= .returned (.bool true)/\Below w.heap.size w w':=by
 obtain⟨h1,h2⟩:=hA;obtain⟨g1,g2⟩:=hB;obtain⟨h3,h4,h5⟩:=hf;have up1:=fun(W:World) (hb:Below w.heap.size w W)=>h1.keep (w':=W) (fun k _ q=>hb.block k q) (fun k q _=>q);have up2:=fun(W:World) (hb:Below w.heap.size w W)=>g1.keep (w':=W) (fun k _ q=>hb.block k q) (fun k q _=>q);have HX:=Zh (fun(W:World) (hb:Below w.heap.size w W)=>YfF m.externs (fun k=>k<w.heap.size) ve ue W (up1 W hb) (up2 W hb) h3);have HF:=Zh (fun(W:World) (hb:Below w.heap.size w W)=>YlA m.funcs vf uf W (h2.keep (fun k _ hk=>hb.block k hk) (fun k q _=>Nat.lt_of_lt_of_le q hb.size)) (g2.keep (fun k _ hk=>hb.block k hk) (fun k q _=>Nat.lt_of_lt_of_le q hb.size)) h5 h4);obtain⟨ao,ca,rfl⟩:∃a c,ve= .slice a m.externs.length c:=by obtain⟨a,c,e,_⟩:=h1; exact⟨a,c,e⟩
 obtain⟨bo,cb,rfl⟩:∃a c,ue= .slice a m.externs.length c:=by obtain⟨a,c,e,_⟩:=g1; exact⟨a,c,e⟩
 obtain⟨aof,caf,rfl⟩:∃a c,vf= .slice a m.funcs.length c:=by obtain⟨a,c,e,_⟩:=h2; exact⟨a,c,e⟩
 obtain⟨bof,cbf,rfl⟩:∃a c,uf= .slice a m.funcs.length c:=by obtain⟨a,c,e,_⟩:=g2; exact⟨a,c,e⟩
 clear up1 up2 h1 h2 g1 g2;go_enter Tryz.func30,Tryz.ntmps30;go_wp2_with fail;obtain⟨r0,r1,hb1,_⟩:=Yhz w (.cells #[.slice ao m.externs.length ca,.slice aof m.funcs.length caf] 26) (.cells #[.slice bo m.externs.length cb,.slice bof m.funcs.length cbf] 26);generalize World.alloc (World.alloc w _) _=W1 at r0 r1 hb1⊢;refine(HX.out W1 hb1).mono ?_;rintro e W2 ⟨rfl,q,rfl⟩;have hb2:Below w.heap.size w (W1.drewN q):=below_drewN hb1 q;have r0:(W1.drewN q).heap[w.heap.size]? =_:=r0;have r1:(W1.drewN q).heap[w.heap.size+1]? =_:=r1;generalize W1.drewN q=W2 at hb2 r0 r1⊢;clear hb1;obtain⟨x0,x1⟩:=row2 r0;obtain⟨y0,y1⟩:=row2 r1;go_wp2_with fail;refine(HF.out W2 hb2).mono ?_;rintro e w9 ⟨rfl,hb9⟩;have HB:=Zh (hb2.trans (hb9.mono hb2.size));clear hb9 hb2 HX HF x0 x1 y0 y1 r0 r1;go_wp2;go_ret;exact⟨rfl,HB.out⟩
def YiU (w:World):Prop:=∀W,Below w.heap.size w W->Calls Tryz.prog 10 #[] W fun e w'=>e= .returned (.bool true)/\Below W.heap.size W w'
end Go.Proofs.YteamjdmhdfjopaaGreatDoor
