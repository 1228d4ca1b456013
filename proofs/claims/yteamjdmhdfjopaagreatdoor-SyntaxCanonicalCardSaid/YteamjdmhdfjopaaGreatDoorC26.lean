/- A part of the proof; it holds the texts Tok Tokb Wt Jn (names and blanks shortened). -/
import Derived.Test.YteamjdmhdfjopaaGreatDoorC24
import Derived.Test.YteamjdmhdfjopaaGreatDoorC22
import Derived.Test.YteamjdmhdfjopaaGreatDoorC9
import Derived.Test.YteamjdmhdfjopaaGreatDoorC10
import Derived.Laws.OwnMore
namespace Go.Proofs.YteamjdmhdfjopaaGreatDoor
open Go.RowKit
set_option maxRecDepth 100000
set_option maxHeartbeats 8000000
set_option linter.unusedVariables false
set_option linter.unusedSimpArgs false
set_option linter.unnecessarySimpa false
def Yfx (B b:Nat)(s:ByteArray)(fr:Nat)(sp:List (Nat×Nat))(v:Value)(w:World)(r:TokR)(e:Ending)(w':World):Prop:=
 match r with
 |.bad code x=>YfA b v w x code e w'
 |.ok kind text fin=>Yfy B b s sp v w kind text fr fin e w'
theorem cell_new1 (W:World)(x:Value)(t:TypeId):(W.alloc (.cells #[x] t)).cell? ⟨W.heap.size,0,none⟩=some x:=by
 have hT:=heap_alloc_new W (.cells #[x] t);generalize W.alloc _=U at hT⊢;simp[World.cell?,hT]
theorem Yjr (W:World)(x:Value)(t:TypeId):(W.alloc (.cells #[x] t)).frozen? ⟨W.heap.size,0,none⟩=false:=by
 have hT:=heap_alloc_new W (.cells #[x] t);generalize W.alloc _=U at hT⊢;simp[World.frozen?,hT]
theorem Yia {B b:Nat}{s:ByteArray}{fr:Nat}{mark:Int}{sp:List (Nat×Nat)}{v:Value}{w:World}{q:QuoR}{R:TokR}{e:Ending}{w':World}(h:Ya7 B b s fr mark sp v w q e w')(hR:quoR mark fr q=R):
 (∃code,R= .bad code fr/\YfA b v w fr code e w')\/∃kind text fin,R= .ok kind text fin/\Yfy B b s sp v w kind text fr fin e w':=by
 subst hR;cases q with
 |bad=>exact .inl ⟨41,rfl,h⟩
 |
  ok out fin=>
  unfold Ya7 at h;unfold quoR;dsimp only at h⊢;by_cases h39:mark=39
  ·rw[if_pos h39] at h⊢; exact .inr ⟨_,_,_,rfl,h⟩
  ·rw[if_neg h39] at h⊢;by_cases hl:out.length<1\/60<out.length
   ·rw[if_pos hl] at h⊢; exact .inl ⟨_,rfl,h⟩
   ·rw[if_neg hl] at h⊢; exact .inr ⟨_,_,_,rfl,h⟩
theorem Yem {B b:Nat}{s:ByteArray}{at_ i:Nat}{sp:List (Nat×Nat)}{v:Value}{w W w1:World}{z:Array Value}(hT:TokW B b s at_ i sp v w W z/\W.heap.size=w.heap.size+4)(hk:Yg b v W.drew w1)
 (hb:b<w.heap.size)(hv:∀k,v.ownBlock=some k->k<w.heap.size):w1.heap[w.heap.size+1]? =some (.cells zTok 136 (0,0)):=by
 refine(hk.block (w.heap.size+1) ?_ ?_).trans hT.1.res
 ·show _<W.heap.size;omega
 ·rintro(e | e)
  ·omega
  ·have:=hv _ e;omega
theorem Yck {P:Program}{f:FuncId}{args:Array Value}{w:World}{n m:Nat}{v:Value}(h:∀k,Calls P f args (w.drewN k) fun e w'=>e= .returned v/\∃j,w'=(w.drewN k).drewN j):
 Calls P f args (w.drewN (n+m)) fun e w''=>e= .returned v/\∃k,w''=w.drewN (n+k):=(h _).mono fun _ _ ⟨a,j,b⟩=>⟨a,m+j,by rw[b,World.drewN_drewN,Nat.add_assoc]⟩
theorem Ybu {P:Program}{f:FuncId}{args:Array Value}{w:World}{m:Nat}{v:Value}(h:∀k,Calls P f args (w.drewN k) fun e w'=>e= .returned v/\∃j,w'=(w.drewN k).drewN j):
 Calls P f args (w.drewN m) fun e w''=>e= .returned v/\∃k,w''=w.drewN k:=(h _).mono fun _ _ ⟨a,j,b⟩=>⟨a,m+j,by rw[b,World.drewN_drewN]⟩
theorem Yk.below {B b:Nat}{s:ByteArray}{i:Nat}{sp:List (Nat×Nat)}{v:Value}{w w':World}(h:Yk B b s i sp v w)(hb:Below w.heap.size w w'):Yk B b s i sp v w':=
 ⟨World.rowIs.of_block h.row (hb.block _ h.row.lt),(Keep.of_below (S:=fun _=>False) hb).owns h.own (fun _ _ q=>q),h.le,h.few⟩
def cTl:Code->Code
 |.seq _ b=>b
 |_=>.skip
def cHd:Code->Code
 |.seq a _=>a
 |_=>.skip
noncomputable def YgR:Code:=cTl (cTl (Tryz.f166.body.getD .skip))
noncomputable def J7:Code:=cTl (cTl (cTl YgR))
section
variable {B b:Nat}{s:ByteArray}{fr i j:Nat}{sp:List (Nat×Nat)}{v:Value}{w wr w1:World}{t:Array Value}
theorem TokW.nm_cell (h:TokW B b s fr i sp v w wr t):wr.cell? ⟨w.heap.size,0,none⟩=some (.pointer (some ⟨b,0,none⟩)):=by simp[World.cell?,h.nm]
theorem TokW.pl_cell (h:TokW B b s fr i sp v w wr t):wr.cell? ⟨w.heap.size+2,0,none⟩=some (.int .i64 fr):=by simp[World.cell?,h.pl]
theorem TokW.tok_text {x y z:Value}(h:TokW B b s fr i sp v w wr #[x,y,z]):wr.cell? ⟨w.heap.size+3,1,none⟩=some y:=by simp[World.cell?,h.tok]
theorem TokW.drewN (h:TokW B b s fr i sp v w wr t)(n:Nat):TokW B b s fr i sp v w (wr.drewN n) t:=⟨h.scan.drewN n,h.kept.drewN n,h.nm,h.res,h.pl,h.tok⟩
theorem TokW.lt (h:TokW B b s fr i sp v w wr t):w.heap.size+4<=wr.heap.size:=by
 obtain⟨q,_⟩:=Zg h.tok; omega
theorem TokW.step (h:TokW B b s fr i sp v w wr t)(hk:Keep (fun k=>k=b) wr w1)(hs:Yk B b s j sp v w1)(hb:b<w.heap.size):TokW B b s fr j sp v w w1 t:=by
 have hl:=h.lt;exact⟨hs,Keep.trans h.kept hk (fun _ _ q=>.inl q),(hk.block _ Zo Zo).trans h.nm,(hk.block _ Zo Zo).trans h.res,(hk.block _ Zo Zo).trans h.pl,(hk.block _ Zo Zo).trans h.tok⟩
theorem TokW.below (h:TokW B b s fr i sp v w wr t)(hb:Below wr.heap.size wr w1):TokW B b s fr i sp v w w1 t:=by
 have hl:=h.lt;exact⟨h.scan.below hb,Keep.trans h.kept (Keep.of_below (S:=fun _=>False) hb) (fun _ _ q=>q.elim),(hb.block _ Zo).trans h.nm,(hb.block _ Zo).trans h.res,(hb.block _ Zo).trans h.pl,(hb.block _ Zo).trans h.tok⟩
theorem TokW.setTok (h:TokW B b s fr i sp v w wr t)(hb:b<w.heap.size)(hvl:∀k,v.ownBlock=some k->k<w.heap.size)(cs:Array Value):TokW B b s fr i sp v w (wr.setRow (w.heap.size+3) cs) cs:=by
 have hkS:Keep (fun k=>k=w.heap.size+3) wr (wr.setRow (w.heap.size+3) cs):=⟨rfl,rfl,rfl,by simp,fun k _ n=>setRow_other _ _ _ _ n⟩;exact⟨⟨hkS.row h.scan.row Zo,hkS.owns h.scan.own (fun k e q=>by have:=hvl k e; omega),h.scan.le,h.scan.few⟩,Jj h.kept _ Zo _,
  (setRow_other _ _ _ _ Zo).trans h.nm,(setRow_other _ _ _ _ Zo).trans h.res,(setRow_other _ _ _ _ Zo).trans h.pl,setRow_heap _ _ _ _ _ _ h.tok⟩
theorem TokW.ret (h:TokW B b s fr i sp v w wr t)(hvl:∀k,v.ownBlock=some k->k<w.heap.size)(hb:b<w.heap.size)(kind:Int)(text:ByteArray):
 Yfy B b s sp v w kind text fr i (.returned (.tuple #[.agg (Yd kind text fr),.nilIface])) (wr.setRow (w.heap.size+1) (Yd kind text fr)):=by
 have hkS:Keep (fun k=>k=w.heap.size+1) wr (wr.setRow (w.heap.size+1) (Yd kind text fr)):=⟨rfl,rfl,rfl,by simp,fun k _ n=>setRow_other _ _ _ _ n⟩;exact⟨rfl,⟨hkS.row h.scan.row Zo,hkS.owns h.scan.own (fun k e q=>by have:=hvl k e; omega),h.scan.le,h.scan.few⟩,Jj h.kept _ Zo _⟩
theorem Jb (h:TokW B b s fr i sp v w wr t):
 wr.cell? ⟨w.heap.size+1,0,none⟩=some (.int .i64 0)/\wr.cell? ⟨w.heap.size+1,1,none⟩=some (.string ⟨#[]⟩)/\wr.cell? ⟨w.heap.size+1,2,none⟩=some (.int .i64 0)/\
 wr.frozen? ⟨w.heap.size+1,0,none⟩=false/\wr.frozen? ⟨w.heap.size+1,1,none⟩=false/\wr.frozen? ⟨w.heap.size+1,2,none⟩=false:=by
 have hr:=h.res;simp[World.cell?,World.frozen?,hr,zTok]
def errW (wr:World)(g:Nat)(o:Obj):World:=((((wr.setCell ⟨g,0,none⟩ (.int .i64 0)).setCell ⟨g,1,none⟩ (.string ⟨#[]⟩)).setCell ⟨g,2,none⟩ (.int .i64 0))).alloc o
def YqI (W E:World):Prop:=W.heap=E.heap/\W.os=E.os/\W.tape=E.tape/\W.output=E.output
theorem Keep.same {S:Nat->Prop}{a c e:World}(h:Keep S a e)(hc:YqI c e):Keep S a c:=by
 obtain⟨h1,h2,h3,h4⟩:=hc;exact⟨h2.trans h.os,h3.trans h.tape,h4.trans h.output,by rw[h1]; exact h.size,fun k hk q=>by rw[h1]; exact h.block k hk q⟩
theorem YhU (wr:World)(a c d:Addr)(x y z:Value):(((wr.setCell a x).setCell c y).setCell d z).heap.size=wr.heap.size:=Zs
theorem Yn (h:TokW B b s fr i sp v w wr t)(o:Obj){W:World}(hW:YqI W (errW wr (w.heap.size+1) o)):W.heap[w.heap.size+1]? =some (.cells zTok 136 (0,0)):=by
 have hl:=h.lt;have hr:=h.res;rw[hW.1];unfold errW;have h1:=heap_setCell_same wr (w.heap.size+1) 0 _ _ (.int .i64 0) hr;have h2:=heap_setCell_same _ (w.heap.size+1) 1 _ _ (.string ⟨#[]⟩) h1;have h3:=heap_setCell_same _ (w.heap.size+1) 2 _ _ (.int .i64 0) h2;refine(Below.heap_alloc _ _ _ (by rw[YhU]; omega)).trans (h3.trans ?_);simp[zTok]
theorem Ym (h:TokW B b s fr i sp v w wr t)(place:Nat)(code:Int)(W:World){k:Nat}(hk0:wr.heap.size=k)(hW:YqI W (errW wr (w.heap.size+1) (.cells #[.int .i64 place,.int .i64 code] 192))):
 YfA b v w place code (.returned (.tuple #[.agg zTok,.iface 190 (.pointer (some ⟨k,0,none⟩))])) W:=by
 subst hk0;have hl:=h.lt;have hk:Keep (fun k=>k=w.heap.size+1) wr (errW wr (w.heap.size+1) (.cells #[.int .i64 place,.int .i64 code] 192)):=
  ((YhK wr (w.heap.size+1) (.int .i64 0) (.string ⟨#[]⟩) (.int .i64 0)).trans (Keep.of_alloc (S:=fun _=>False) _ (.cells #[.int .i64 place,.int .i64 code] 192)) (fun _ _ q=>False.elim q)).same ⟨rfl,rfl,rfl,rfl⟩
 refine⟨wr.heap.size,rfl,by omega,?_,(Keep.trans h.kept hk (fun k hk q=>by omega)).same hW⟩;rw[hW.1];unfold errW;have:=heap_alloc_new ((((wr.setCell ⟨w.heap.size+1,0,none⟩ (.int .i64 0)).setCell ⟨w.heap.size+1,1,none⟩ (.string ⟨#[]⟩)).setCell ⟨w.heap.size+1,2,none⟩ (.int .i64 0))) (.cells #[.int .i64 place,.int .i64 code] 192);rwa [YhU] at this
end
def YpW (B b:Nat)(s:ByteArray)(at_:Nat)(sp:List (Nat×Nat))(v:Value)(w:World)(R:TokR)(C:Code):Prop:=
 ∀(kind:Int) (fin:Nat) (wr:World) (tx:ByteArray),Hid (near s kind at_ fin=R)->Hid (tx=s.extract at_ fin)->TokW B b s at_ fin sp v w wr #[.int .i64 kind,.string tx,.int .i64 at_]->w.heap.size+4<=wr.heap.size->∀u0 u3 u4 u5 u6 u8 u9 u10 u11 u12 u13 u14 u15 u16 u17 u18 u19 u20 u21 u22 u23 u24 u25 u26 u27 u28 u29 u30 u31 u32 u33 u34 u35 u36 u37 u38 u39 u40 u41 u42 u43 u44 u45 u46 u47 u48 u49 u50 u51 u52 u53 u54 u55 u56 u57 u58 u59 u60 u61 u62 u63 u64 u65 u66 u67 u68 u69 u70 u71 u72 u73 u74 u75 u76 u77 u78 u79 u80 u81 u82 u83 u84 u85 u86 u87 u88 u89 u90 u91 u92 u93 u94 u95 u96 u97 u98 u99 u100 u101 u102 u103 u104 u105 u106 u107 u108 u109 u110 u111 u112 u113 u114 u115 u116 u117 u118 u119 u120 u121 u122 u123 u124 u125 u126 u127 u128 u129 u130 u131 u132 u133 u134 u135 u136 u137 u138 u139 u140 u141 u142 u143 u144 u145 u146 u147 u148 u149 u150 u151 u152 u153 u154 u155 u156 u157 u158 u159 u160 u161 u162 u163 u164 u165 u166 u167 u168 u169 u170 u171 u172 u173 u174 u175 u176 u177 u178 u179 u180 u181 u182 u183 u184 u185 u186 u187 u188 u189 u190 u191 u192 u193 u194 u195 u196 u197 u198 u199 u200 u201 u202 u203 u204 u205 u206 u207 u208 u209 u210 u211 u212 u213 u214 u215 u216 u217 u218 u219 u220 u221 u222 u223 u224 u225 u226 u227 u228 u229 u230 u231 u232 u233 u234 u235:Value,
  Code.wp Tryz.prog C (bodyPost Tryz.prog Tryz.f166 (Yfx B b s at_ sp v w R)) ⟨#[u0,.pointer (some ⟨w.heap.size,0,none⟩),.pointer (some ⟨w.heap.size+1,0,none⟩),u3,u4,u5,u6,.pointer (some ⟨w.heap.size+3,0,none⟩),u8,u9,u10,u11,u12,u13,u14,u15,u16,u17,u18,u19,u20,u21,u22,u23,u24,u25,u26,u27,u28,u29,u30,u31,u32,u33,u34,u35,u36,u37,u38,u39,u40,u41,u42,u43,u44,u45,u46,u47,u48,u49,u50,u51,u52,u53,u54,u55,u56,u57,u58,u59,u60,u61,u62,u63,u64,u65,u66,u67,u68,u69,u70,u71,u72,u73,u74,u75,u76,u77,u78,u79,u80,u81,u82,u83,u84,u85,u86,u87,u88,u89,u90,u91,u92,u93,u94,u95,u96,u97,u98,u99,u100,u101,u102,u103,u104,u105,u106,u107,u108,u109,u110,u111,u112,u113,u114,u115,u116,u117,u118,u119,u120,u121,u122,u123,u124,u125,u126,u127,u128,u129,u130,u131,u132,u133,u134,u135,u136,u137,u138,u139,u140,u141,u142,u143,u144,u145,u146,u147,u148,u149,u150,u151,u152,u153,u154,u155,u156,u157,u158,u159,u160,u161,u162,u163,u164,u165,u166,u167,u168,u169,u170,u171,u172,u173,u174,u175,u176,u177,u178,u179,u180,u181,u182,u183,u184,u185,u186,u187,u188,u189,u190,u191,u192,u193,u194,u195,u196,u197,u198,u199,u200,u201,u202,u203,u204,u205,u206,u207,u208,u209,u210,u211,u212,u213,u214,u215,u216,u217,u218,u219,u220,u221,u222,u223,u224,u225,u226,u227,u228,u229,u230,u231,u232,u233,u234,u235],[]⟩ wr
section
variable (B b:Nat)(s:ByteArray)(at_:Nat)(sp:List (Nat×Nat))(v:Value)(w X:World)(R:TokR)(x:Nat)(cv ix:Int)(C:Code)
def Yei:Prop:=∀u13 u14 u15 u16 u17 u18 u19 u20 u21 u22 u23 u24 u25:Value,
 Code.wp Tryz.prog (.seq (cHd YgR) (.seq (cHd (cTl YgR)) (.seq (cHd (cTl (cTl YgR))) C))) (bodyPost Tryz.prog Tryz.f166 (Yfx B b s at_ sp v w R)) ⟨#[.pointer (some ⟨b,0,none⟩),.pointer (some ⟨w.heap.size,0,none⟩),.pointer (some ⟨w.heap.size+1,0,none⟩),.nilIface,.pointer (some ⟨w.heap.size+2,0,none⟩),.int .u8 x,undef,undef,undef,undef,undef,undef,undef,u13,u14,u15,u16,u17,u18,u19,u20,u21,u22,u23,u24,u25,undef,undef,undef,undef,undef,undef,undef,undef,undef,undef,undef,undef,undef,undef,undef,undef,undef,undef,undef,undef,undef,undef,undef,undef,undef,undef,undef,undef,undef,undef,undef,undef,undef,undef,undef,undef,undef,undef,undef,undef,undef,undef,undef,undef,undef,undef,undef,undef,undef,undef,undef,undef,undef,undef,undef,undef,undef,undef,undef,undef,undef,undef,undef,undef,undef,undef,undef,undef,undef,undef,undef,undef,undef,undef,undef,undef,undef,undef,undef,undef,undef,undef,undef,undef,undef,undef,undef,undef,undef,undef,undef,undef,undef,undef,undef,undef,undef,undef,undef,undef,undef,undef,undef,undef,undef,undef,undef,undef,undef,undef,undef,undef,undef,undef,undef,undef,undef,undef,undef,undef,undef,undef,undef,undef,undef,undef,undef,undef,undef,undef,undef,undef,undef,undef,undef,undef,undef,undef,undef,undef,undef,undef,undef,undef,undef,undef,undef,undef,undef,undef,undef,undef,undef,undef,undef,undef,undef,undef,undef,undef,undef,undef,undef,undef,undef,undef,undef,undef,undef,undef,undef,undef,undef,undef,undef,undef,undef,undef,undef,undef,undef,undef,undef,undef,undef,undef,undef,undef,undef,undef,undef,undef,undef,undef,undef,undef,undef,undef,undef,undef,undef,undef,undef,undef,undef,undef,undef,undef,undef,undef],[]⟩ X.drew
def Arm (Q:Prop):Prop:=
 YpW B b s at_ sp v w R C->s.size<=40000->at_<s.size->B<=w.heap.size->B<=b->x<256->Hid ((x:Int)=bt s at_)->Hid (cls x=cv)->b<w.heap.size->(∀k,v.ownBlock=some k->k<w.heap.size)->(TokW B b s at_ at_ sp v w (X.alloc (.cells #[.int .i64 0,.string ⟨#[]⟩,.int .i64 0] 136)) zTok/\(X.alloc (.cells #[.int .i64 0,.string ⟨#[]⟩,.int .i64 0] 136)).heap.size=w.heap.size+4)->Hid (tokN s at_=R)->(∀w,Calls Tryz.prog 87 #[.string ⟨#[115,116,101]⟩,.int .u8 x] w fun e w'=>e= .returned (.int .i64 ix)/\w'=w)->Q
theorem YlV:Arm B b s at_ sp v w X R x cv ix C (Hid ((x:Int)=39)->Yei B b s at_ sp v w X R x C):=by
 intro _hC hs hlt hB hbB hx1 HB HV hbs hvl hT hR _hI HQ0 u13 u14 u15 u16 u17 u18 u19 u20 u21 u22 u23 u24 u25;clear _hC _hI;have hcl3:=hT.1.scan.row.c2 x hx1;rw[HV.out] at hcl3;have hsp3:=hT.1.nm_cell;have hpl3:=hT.1.pl_cell;have hc03:=hT.1.scan.row.c0;have hx2:(x:Int)<256:=Zo;have hX:X.heap.size=w.heap.size+3:=by have:=hT.2; simp at this; omega
 have q39:((x:Int)==39)=true:=by simpa using HQ0.out
 conv=>arg 2; arg 1; whnf
 conv=>arg 2; arg 2; arg 1; whnf
 conv=>arg 2; arg 2; arg 2; arg 1; whnf
 go_wp2_with fail;generalize World.alloc X _=W4 at hT hcl3 hsp3 hpl3 hc03⊢;have hb39:bt s at_=39:=HB.out.symm.trans HQ0.out;have hQ:=Yi4 hR.out (.inl hb39);rw[hb39] at hQ;generalize hq2:quoN s 39 (s.size - at_) (at_+1) []=Q at hQ;have hQH:=Zh hQ;clear hQ;refine(Yda B b s at_ sp v W4.drew hs (hT.1.scan.drewN 1) hlt (by show B<=W4.heap.size; omega) hbB 39 hb39 (.inl rfl) Q _ Zo hq2).mono ?_;rintro e w1 hP;rcases Yia hP hQH.out with⟨code,hRR,k,rfl,hk,hh,hkp⟩ | ⟨kind,text,fin,hRR,rfl,hsc,hkp⟩
 ·have hRR:=Zh hRR;have hres:=Yem hT hkp hbs hvl;go_wp2_with (refine wpList_store_row rfl 136 (.tmp 2) (.tmp 47) rfl (w.heap.size+1) zTok rfl rfl 136 zTok hres (Yb _ rfl) rfl Jc ?_);refine bodyPost_ret (v:=.tuple #[.agg zTok,.iface 190 (.pointer (some ⟨k,0,none⟩))]) ?_ rfl ?_
  ·exact Ya rfl _ _ (w.heap.size+1) 136 zTok (0,0) _ _ rfl rfl (setRow_heap _ _ _ _ _ _ hres) Tryz.underlying136 rfl (Yb _ rfl)
  ·rw[hRR.out];have hk2:w.heap.size+4<=k:=by have:W4.heap.size<=k:=hk; omega
   exact⟨k,rfl,by omega,(setRow_other _ _ _ _ Zo).trans hh,Jj ((hT.1.kept.drewN 1).trans hkp (fun _ _ q=>q)) _ Zo _⟩
 ·have hRR:=Zh hRR;have hres:=Yem hT hkp hbs hvl;go_wp2_with (refine wpList_store_row rfl 136 (.tmp 2) (.tmp 47) rfl (w.heap.size+1) (Yd kind text at_) rfl rfl 136 zTok hres (Yb _ rfl) rfl (YR _ _ _) ?_);refine bodyPost_ret (v:=.tuple #[.agg (Yd kind text at_),.nilIface]) ?_ rfl ?_
  ·exact Ya rfl _ _ (w.heap.size+1) 136 (Yd kind text at_) (0,0) _ _ rfl rfl (setRow_heap _ _ _ _ _ _ hres) Tryz.underlying136 rfl (Yb _ rfl)
  ·rw[hRR.out];have hkS:Keep (fun k=>k=w.heap.size+1) w1 (w1.setRow (w.heap.size+1) (Yd kind text at_)):=⟨rfl,rfl,rfl,by simp,fun k _ n=>setRow_other _ _ _ _ n⟩;exact⟨rfl,⟨hkS.row hsc.row Zo,hkS.owns hsc.own (fun k e q=>by have:=hvl k e; omega),hsc.le,hsc.few⟩,Jj ((hT.1.kept.drewN 1).trans hkp (fun _ _ q=>q)) _ Zo _⟩
theorem YlW:Arm B b s at_ sp v w X R x cv ix C (Hid ((x:Int)=34)->Yei B b s at_ sp v w X R x C):=by
 intro _hC hs hlt hB hbB hx1 HB HV hbs hvl hT hR _hI HQ0 u13 u14 u15 u16 u17 u18 u19 u20 u21 u22 u23 u24 u25;clear _hC _hI;have hcl3:=hT.1.scan.row.c2 x hx1;rw[HV.out] at hcl3;have hsp3:=hT.1.nm_cell;have hpl3:=hT.1.pl_cell;have hc03:=hT.1.scan.row.c0;have hx2:(x:Int)<256:=Zo;have hX:X.heap.size=w.heap.size+3:=by have:=hT.2; simp at this; omega
 have q39:((x:Int)==39)=false:=by have:=HQ0.out; simp; omega
 have q34:((x:Int)==34)=true:=by simpa using HQ0.out
 conv=>arg 2; arg 1; whnf
 conv=>arg 2; arg 2; arg 1; whnf
 conv=>arg 2; arg 2; arg 2; arg 1; whnf
 go_wp2_with fail;generalize World.alloc X _=W4 at hT hcl3 hsp3 hpl3 hc03⊢;have hb39:bt s at_=34:=HB.out.symm.trans HQ0.out;have hQ:=Yi4 hR.out (.inr hb39);rw[hb39] at hQ;generalize hq2:quoN s 34 (s.size - at_) (at_+1) []=Q at hQ;have hQH:=Zh hQ;clear hQ;refine(Yda B b s at_ sp v W4.drew hs (hT.1.scan.drewN 1) hlt (by show B<=W4.heap.size; omega) hbB 34 hb39 (.inr rfl) Q _ Zo hq2).mono ?_;rintro e w1 hP;rcases Yia hP hQH.out with⟨code,hRR,k,rfl,hk,hh,hkp⟩ | ⟨kind,text,fin,hRR,rfl,hsc,hkp⟩
 ·have hRR:=Zh hRR;have hres:=Yem hT hkp hbs hvl;go_wp2_with (refine wpList_store_row rfl 136 (.tmp 2) (.tmp 47) rfl (w.heap.size+1) zTok rfl rfl 136 zTok hres (Yb _ rfl) rfl Jc ?_);refine bodyPost_ret (v:=.tuple #[.agg zTok,.iface 190 (.pointer (some ⟨k,0,none⟩))]) ?_ rfl ?_
  ·exact Ya rfl _ _ (w.heap.size+1) 136 zTok (0,0) _ _ rfl rfl (setRow_heap _ _ _ _ _ _ hres) Tryz.underlying136 rfl (Yb _ rfl)
  ·rw[hRR.out];have hk2:w.heap.size+4<=k:=by have:W4.heap.size<=k:=hk; omega
   exact⟨k,rfl,by omega,(setRow_other _ _ _ _ Zo).trans hh,Jj ((hT.1.kept.drewN 1).trans hkp (fun _ _ q=>q)) _ Zo _⟩
 ·have hRR:=Zh hRR;have hres:=Yem hT hkp hbs hvl;go_wp2_with (refine wpList_store_row rfl 136 (.tmp 2) (.tmp 47) rfl (w.heap.size+1) (Yd kind text at_) rfl rfl 136 zTok hres (Yb _ rfl) rfl (YR _ _ _) ?_);refine bodyPost_ret (v:=.tuple #[.agg (Yd kind text at_),.nilIface]) ?_ rfl ?_
  ·exact Ya rfl _ _ (w.heap.size+1) 136 (Yd kind text at_) (0,0) _ _ rfl rfl (setRow_heap _ _ _ _ _ _ hres) Tryz.underlying136 rfl (Yb _ rfl)
  ·rw[hRR.out];have hkS:Keep (fun k=>k=w.heap.size+1) w1 (w1.setRow (w.heap.size+1) (Yd kind text at_)):=⟨rfl,rfl,rfl,by simp,fun k _ n=>setRow_other _ _ _ _ n⟩;exact⟨rfl,⟨hkS.row hsc.row Zo,hkS.owns hsc.own (fun k e q=>by have:=hvl k e; omega),hsc.le,hsc.few⟩,Jj ((hT.1.kept.drewN 1).trans hkp (fun _ _ q=>q)) _ Zo _⟩
theorem Yok:Arm B b s at_ sp v w X R x cv ix C (¬((x:Int)=39\/(x:Int)=34)->cv=4->Yei B b s at_ sp v w X R x C):=by
 intro _hC hs hlt _hB _hbB hx1 HB HV hbs hvl hT hR _hI hnq hcv u13 u14 u15 u16 u17 u18 u19 u20 u21 u22 u23 u24 u25;clear _hC _hB _hbB _hI;have hcl3:=hT.1.scan.row.c2 x hx1;rw[HV.out] at hcl3;have hsp3:=hT.1.nm_cell;have hpl3:=hT.1.pl_cell;have hc03:=hT.1.scan.row.c0;have hx2:(x:Int)<256:=Zo;have hX:X.heap.size=w.heap.size+3:=by have:=hT.2; simp at this; omega
 have n39:((x:Int)==39)=false:=by simp; omega
 have n34:((x:Int)==34)=false:=by simp; omega
 have HQ:Hid (¬(bt s at_=39\/bt s at_=34)):=by rw[<-HB.out]; exact hnq
 clear hnq;obtain rfl:cv=4:=hcv;have HC:Hid (cls (bt s at_).toNat=4):=by rw[<-HB.out]; exact HV.out
 conv=>arg 2; arg 1; whnf
 conv=>arg 2; arg 2; arg 1; whnf
 conv=>arg 2; arg 2; arg 2; arg 1; whnf
 go_wp2_with fail;generalize World.alloc X _=W4 at hT hcl3 hsp3 hpl3 hc03⊢;have e1:IntKind.i64.wrap ((at_:Int)+1)=((at_+1:Nat):Int):=(IntWalk.i64_in _ Zo).trans Zo;try rw[e1]
 refine(take_any B b w.heap.size (w.heap.size+2) s at_ at_ (at_+1) 6 sp v W4.drew hs (hT.1.scan.drewN 1) hT.1.nm hT.1.pl Zo Zo Zo).mono ?_;rintro e w1 ⟨rfl,hsc,hkp⟩;have hT1:=(hT.1.drewN 1).step hkp hsc hbs;have hres:=hT1.res;go_wp2_with (refine wpList_store_row rfl 136 (.tmp 2) (.tmp 55) rfl (w.heap.size+1) (Yd 6 (s.extract at_ (at_+1)) at_) rfl rfl 136 zTok hres (Yb _ rfl) rfl (YR _ _ _) ?_);refine bodyPost_ret (v:=.tuple #[.agg (Yd 6 (s.extract at_ (at_+1)) at_),.nilIface]) ?_ rfl ?_
 ·exact Ya rfl _ _ (w.heap.size+1) 136 (Yd 6 (s.extract at_ (at_+1)) at_) (0,0) _ _ rfl rfl (setRow_heap _ _ _ _ _ _ hres) Tryz.underlying136 rfl (Yb _ rfl)
 ·rw[YgO hR.out HQ.out HC.out];exact hT1.ret hvl hbs _ _
theorem YlY:Arm B b s at_ sp v w X R x cv ix C (¬((x:Int)=39\/(x:Int)=34)->(cv==4)=false->(cv==2)=false->(cv==3)=false->((x:Int)==36)=false->ix<0->Hid (¬(steB (bt s at_)=true/\bt s (at_+1)=46))->Hid (¬(cls (bt s at_).toNat=3\/bt s at_=45/\cls (bt s (at_+1)).toNat=3))->((x:Int)==45)=false->Yei B b s at_ sp v w X R x C):=by
 intro _hC _hs _hlt _hB _hbB hx1 HB HV _hbs _hvl hT hR hI hnq h4 h2 h3 h36 hix HST H3 h45 u13 u14 u15 u16 u17 u18 u19 u20 u21 u22 u23 u24 u25;clear _hC _hs _hlt _hB _hbB _hbs _hvl;have hcl3:=hT.1.scan.row.c2 x hx1;rw[HV.out] at hcl3;have hsp3:=hT.1.nm_cell;have hpl3:=hT.1.pl_cell;have hc03:=hT.1.scan.row.c0;have hx2:(x:Int)<256:=Zo;have hX:X.heap.size=w.heap.size+3:=by have:=hT.2; simp at this; omega
 have n39:((x:Int)==39)=false:=by simp; omega
 have n34:((x:Int)==34)=false:=by simp; omega
 have HQ:Hid (¬(bt s at_=39\/bt s at_=34)):=by rw[<-HB.out]; exact hnq
 clear hnq;have i0:decide (0<=ix)=false:=Zf;have HN:Hid (R= .bad 40 at_):=YgQ hR.out HQ.out (by rw[<-HB.out]; show ¬cls x=4; rw[HV.out]; simpa using h4) (HST.out) (by rw[<-HB.out]; show ¬cls x=2; rw[HV.out]; simpa using h2)
  (H3.out) (by rw[<-HB.out]; simpa using h36)
 conv=>arg 2; arg 1; whnf
 conv=>arg 2; arg 2; arg 1; whnf
 conv=>arg 2; arg 2; arg 2; arg 1; whnf
 go_wp2_with fail;generalize World.alloc X _=W4 at hT hcl3 hsp3 hpl3 hc03⊢;refine(hI _).mono ?_;rintro e w1 ⟨rfl,rfl⟩;clear hI;go_wp2_with fail;go_quiet (fail)
 go_wp2_with fail;have tE:=Jb (hT.1);obtain⟨t0,t1,t2,f0,f1,f2⟩:=tE;have hple:=(hT.1).pl_cell;have HTK:=Zh (hT.1);skip;go_region
 all_goals go_wp2
 all_goals
  refine bodyPost_ret (v:=.tuple #[.agg zTok,.iface 190 (.pointer (some ⟨w.heap.size+4,0,none⟩))]) ?_ rfl ?_
  ·exact Ya rfl _ _ (w.heap.size+1) 136 zTok (0,0) _ _ rfl rfl (Yn HTK.out _ ⟨rfl,rfl,rfl,rfl⟩) Tryz.underlying136 rfl (Yb _ rfl)
  ·rw[HN.out];exact Ym HTK.out _ _ _ (hT.2) ⟨rfl,rfl,rfl,rfl⟩
theorem YpY:Arm B b s at_ sp v w X R x cv ix C (¬((x:Int)=39\/(x:Int)=34)->cv=2->Hid (steB (bt s at_)=true/\bt s (at_+1)=46)->0<=ix->Yei B b s at_ sp v w X R x C):=by
 intro hC hs _hlt _hB _hbB hx1 HB HV hbs hvl hT hR hI hnq hcv HST hix u13 u14 u15 u16 u17 u18 u19 u20 u21 u22 u23 u24 u25;clear _hlt _hB _hbB;have hcl3:=hT.1.scan.row.c2 x hx1;rw[HV.out] at hcl3;have hsp3:=hT.1.nm_cell;have hpl3:=hT.1.pl_cell;have hc03:=hT.1.scan.row.c0;have hx2:(x:Int)<256:=Zo;have hX:X.heap.size=w.heap.size+3:=by have:=hT.2; simp at this; omega
 have n39:((x:Int)==39)=false:=by simp; omega
 have n34:((x:Int)==34)=false:=by simp; omega
 have HQ:Hid (¬(bt s at_=39\/bt s at_=34)):=by rw[<-HB.out]; exact hnq
 clear hnq;obtain rfl:cv=2:=hcv;have HC:Hid (cls (bt s at_).toNat=2):=by rw[<-HB.out]; exact HV.out
 have hdot:(bt s (at_+1)==46)=true:=by simpa using HST.out.2
 have h2s:at_+2<=s.size:=by
  refine Nat.lt_of_not_le fun q=>?_;have:=HST.out.2;rw[Jp Zo] at this; exact absurd this Zd
 have hfin:=YW s (inner Js) (at_+2) h2s;have hrun:=fun w hw=>run_any b s Js at_ (at_+2) v w hs h2s hw;rw[show((at_+2:Nat):Int)=(at_:Int)+2 by omega] at hrun;have e2:IntKind.i64.wrap ((at_:Int)+2)=(at_:Int)+2:=IntWalk.i64_in _ Zo;have HQV:=Zh (Yi3 hR.out HQ.out (by rw[HC.out]; decide) HST.out);generalize Yf s (inner Js) (at_+2)=fin at hfin hrun HQV;have i0:decide (0<=ix)=true:=decide_eq_true hix;conv=>arg 2; arg 1; whnf
 conv=>arg 2; arg 2; arg 1; whnf
 conv=>arg 2; arg 2; arg 2; arg 1; whnf
 go_wp2_with fail;generalize World.alloc X _=W4 at hT hcl3 hsp3 hpl3 hc03⊢;refine(hI _).mono ?_;rintro e w1 ⟨rfl,rfl⟩;clear hI;go_wp2_with fail;refine(Ye3 b s at_ v _ Zo (hT.1.scan.drewN 1).row).mono ?_;rintro e w1 ⟨rfl,k1,rfl⟩;go_wp2_with fail;refine(hrun _ (hT.1.scan.drewN _).row).mono ?_;rintro e w1 ⟨rfl,k2,rfl⟩;go_wp2_with fail;refine(take_any B b w.heap.size (w.heap.size+2) s at_ at_ fin 5 sp v _ hs (hT.1.scan.drewN _) hT.1.nm hT.1.pl Zo Zo Zo).mono ?_;rintro e w5 ⟨rfl,hsc5,hkp5⟩;have hT5:=(hT.1.drewN _).step hkp5 hsc5 hbs;have htx:(s.extract at_ fin).size=fin - at_:=by rw[ByteArray.size_extract]; omega
 generalize hTX:s.extract at_ fin=tx at htx⊢;have HTX:=Zh hTX.symm;clear hTX hkp5 hsc5;have e3:IntKind.i64.wrap ((tx.size:Int) - 2)=(tx.size:Int) - 2:=IntWalk.i64_in _ Zo;clear hrun;go_wp2_with (refine wpList_store_row rfl 136 (.tmp 7) (.tmp 70) rfl (w.heap.size+3) (Yd 5 tx at_) rfl rfl 136 zTok hT5.tok (Yb _ rfl) rfl (YR _ _ _) ?_; have hT6:=hT5.setTok hbs hvl (Yd 5 tx at_); have hc6:=hT6.tok_text; generalize w5.setRow (w.heap.size+3) (Yd 5 tx at_)=W6 at hT6 hc6⊢);all_goals first
  |(apply hC _ fin _ tx (by have h:=HQV.out; rwa [if_neg Zo] at h) HTX hT6 hT6.lt)
  |
   (
   have tE:=Jb (hT6);obtain⟨t0,t1,t2,f0,f1,f2⟩:=tE;have hple:=(hT6).pl_cell;have HTK:=Zh (hT6);have hlt6:w.heap.size+1<W6.heap.size:=by have:=hT6.lt; omega
   go_region
   all_goals go_wp2
   all_goals
    refine bodyPost_ret (v:=.tuple #[.agg zTok,.iface 190 (.pointer (some ⟨W6.heap.size,0,none⟩))]) ?_ rfl ?_
    ·exact Ya rfl _ _ (w.heap.size+1) 136 zTok (0,0) _ _ rfl rfl (Yn HTK.out _ ⟨rfl,rfl,rfl,rfl⟩) Tryz.underlying136 rfl (Yb _ rfl)
    ·rw[(by have h:=HQV.out; rw[if_pos Zo] at h; exact h.symm:R= .bad 43 at_)];exact Ym HTK.out _ _ _ (rfl) ⟨rfl,rfl,rfl,rfl⟩
   )
theorem Yl0:Arm B b s at_ sp v w X R x cv ix C (¬((x:Int)=39\/(x:Int)=34)->cv=2->Hid (¬(steB (bt s at_)=true/\bt s (at_+1)=46))->ix<0->Yei B b s at_ sp v w X R x C):=by
 intro hC hs hlt _hB _hbB hx1 HB HV hbs hvl hT hR hI hnq hcv HST hix u13 u14 u15 u16 u17 u18 u19 u20 u21 u22 u23 u24 u25;clear _hB _hbB;have hcl3:=hT.1.scan.row.c2 x hx1;rw[HV.out] at hcl3;have hsp3:=hT.1.nm_cell;have hpl3:=hT.1.pl_cell;have hc03:=hT.1.scan.row.c0;have hx2:(x:Int)<256:=Zo;have hX:X.heap.size=w.heap.size+3:=by have:=hT.2; simp at this; omega
 have n39:((x:Int)==39)=false:=by simp; omega
 have n34:((x:Int)==34)=false:=by simp; omega
 have HQ:Hid (¬(bt s at_=39\/bt s at_=34)):=by rw[<-HB.out]; exact hnq
 clear hnq;obtain rfl:cv=2:=hcv;have HC:Hid (cls (bt s at_).toNat=2):=by rw[<-HB.out]; exact HV.out
 have hfin:=YW s (inner Yj) at_ Zo;have hrun:=fun w hw=>run_any b s Yj at_ at_ v w hs Zo hw;have HQV:=Zh (Yeo hR.out HQ.out HST.out HC.out);generalize Yf s (inner Yj) at_=fin at hfin hrun HQV;have i0:decide (0<=ix)=false:=Zf;conv=>arg 2; arg 1; whnf
 conv=>arg 2; arg 2; arg 1; whnf
 conv=>arg 2; arg 2; arg 2; arg 1; whnf
 go_wp2_with fail;generalize World.alloc X _=W4 at hT hcl3 hsp3 hpl3 hc03⊢;refine(hI _).mono ?_;rintro e w1 ⟨rfl,rfl⟩;clear hI;go_wp2_with fail;refine(hrun _ (hT.1.scan.drewN _).row).mono ?_;rintro e w1 ⟨rfl,k2,rfl⟩;go_wp2_with fail;refine(take_any B b w.heap.size (w.heap.size+2) s at_ at_ fin 3 sp v _ hs (hT.1.scan.drewN _) hT.1.nm hT.1.pl Zo Zo Zo).mono ?_;rintro e w5 ⟨rfl,hsc5,hkp5⟩;have hT5:=(hT.1.drewN _).step hkp5 hsc5 hbs;have htx:(s.extract at_ fin).size=fin - at_:=by rw[ByteArray.size_extract]; omega
 generalize hTX:s.extract at_ fin=tx at htx⊢;have HTX:=Zh hTX.symm;clear hTX hkp5 hsc5;clear hrun;go_wp2_with (refine wpList_store_row rfl 136 (.tmp 7) (.tmp 93) rfl (w.heap.size+3) (Yd 3 tx at_) rfl rfl 136 zTok hT5.tok (Yb _ rfl) rfl (YR _ _ _) ?_; have hT6:=hT5.setTok hbs hvl (Yd 3 tx at_); have hc6:=hT6.tok_text; generalize w5.setRow (w.heap.size+3) (Yd 3 tx at_)=W6 at hT6 hc6⊢);all_goals first
  |(apply hC _ fin _ tx (by have h:=HQV.out; rwa [if_neg Zo] at h) HTX hT6 hT6.lt)
  |
   (
   have tE:=Jb (hT6);obtain⟨t0,t1,t2,f0,f1,f2⟩:=tE;have hple:=(hT6).pl_cell;have HTK:=Zh (hT6);have hlt6:w.heap.size+1<W6.heap.size:=by have:=hT6.lt; omega
   go_region
   all_goals go_wp2
   all_goals
    refine bodyPost_ret (v:=.tuple #[.agg zTok,.iface 190 (.pointer (some ⟨W6.heap.size,0,none⟩))]) ?_ rfl ?_
    ·exact Ya rfl _ _ (w.heap.size+1) 136 zTok (0,0) _ _ rfl rfl (Yn HTK.out _ ⟨rfl,rfl,rfl,rfl⟩) Tryz.underlying136 rfl (Yb _ rfl)
    ·rw[(by have h:=HQV.out; rw[if_pos Zo] at h; exact h.symm:R= .bad 43 at_)];exact Ym HTK.out _ _ _ (rfl) ⟨rfl,rfl,rfl,rfl⟩
   )
theorem YlZ:Arm B b s at_ sp v w X R x cv ix C (¬((x:Int)=39\/(x:Int)=34)->cv=2->Hid (¬(steB (bt s at_)=true/\bt s (at_+1)=46))->0<=ix->(bt s (at_+1)==46)=false->Yei B b s at_ sp v w X R x C):=by
 intro hC hs hlt _hB _hbB hx1 HB HV hbs hvl hT hR hI hnq hcv HST hix hdot u13 u14 u15 u16 u17 u18 u19 u20 u21 u22 u23 u24 u25;clear _hB _hbB;have hcl3:=hT.1.scan.row.c2 x hx1;rw[HV.out] at hcl3;have hsp3:=hT.1.nm_cell;have hpl3:=hT.1.pl_cell;have hc03:=hT.1.scan.row.c0;have hx2:(x:Int)<256:=Zo;have hX:X.heap.size=w.heap.size+3:=by have:=hT.2; simp at this; omega
 have n39:((x:Int)==39)=false:=by simp; omega
 have n34:((x:Int)==34)=false:=by simp; omega
 have HQ:Hid (¬(bt s at_=39\/bt s at_=34)):=by rw[<-HB.out]; exact hnq
 clear hnq;obtain rfl:cv=2:=hcv;have HC:Hid (cls (bt s at_).toNat=2):=by rw[<-HB.out]; exact HV.out
 have hfin:=YW s (inner Yj) at_ Zo;have hrun:=fun w hw=>run_any b s Yj at_ at_ v w hs Zo hw;have HQV:=Zh (Yeo hR.out HQ.out HST.out HC.out);generalize Yf s (inner Yj) at_=fin at hfin hrun HQV;have i0:decide (0<=ix)=true:=decide_eq_true hix;conv=>arg 2; arg 1; whnf
 conv=>arg 2; arg 2; arg 1; whnf
 conv=>arg 2; arg 2; arg 2; arg 1; whnf
 go_wp2_with fail;generalize World.alloc X _=W4 at hT hcl3 hsp3 hpl3 hc03⊢;refine(hI _).mono ?_;rintro e w1 ⟨rfl,rfl⟩;clear hI;go_wp2_with fail;refine(Ye3 b s at_ v _ Zo (hT.1.scan.drewN 1).row).mono ?_;rintro e w1 ⟨rfl,k1,rfl⟩;go_wp2_with fail;refine(hrun _ (hT.1.scan.drewN _).row).mono ?_;rintro e w1 ⟨rfl,k2,rfl⟩;go_wp2_with fail;refine(take_any B b w.heap.size (w.heap.size+2) s at_ at_ fin 3 sp v _ hs (hT.1.scan.drewN _) hT.1.nm hT.1.pl Zo Zo Zo).mono ?_;rintro e w5 ⟨rfl,hsc5,hkp5⟩;have hT5:=(hT.1.drewN _).step hkp5 hsc5 hbs;have htx:(s.extract at_ fin).size=fin - at_:=by rw[ByteArray.size_extract]; omega
 generalize hTX:s.extract at_ fin=tx at htx⊢;have HTX:=Zh hTX.symm;clear hTX hkp5 hsc5;clear hrun;go_wp2_with (refine wpList_store_row rfl 136 (.tmp 7) (.tmp 93) rfl (w.heap.size+3) (Yd 3 tx at_) rfl rfl 136 zTok hT5.tok (Yb _ rfl) rfl (YR _ _ _) ?_; have hT6:=hT5.setTok hbs hvl (Yd 3 tx at_); have hc6:=hT6.tok_text; generalize w5.setRow (w.heap.size+3) (Yd 3 tx at_)=W6 at hT6 hc6⊢);all_goals first
  |(apply hC _ fin _ tx (by have h:=HQV.out; rwa [if_neg Zo] at h) HTX hT6 hT6.lt)
  |
   (
   have tE:=Jb (hT6);obtain⟨t0,t1,t2,f0,f1,f2⟩:=tE;have hple:=(hT6).pl_cell;have HTK:=Zh (hT6);have hlt6:w.heap.size+1<W6.heap.size:=by have:=hT6.lt; omega
   go_region
   all_goals go_wp2
   all_goals
    refine bodyPost_ret (v:=.tuple #[.agg zTok,.iface 190 (.pointer (some ⟨W6.heap.size,0,none⟩))]) ?_ rfl ?_
    ·exact Ya rfl _ _ (w.heap.size+1) 136 zTok (0,0) _ _ rfl rfl (Yn HTK.out _ ⟨rfl,rfl,rfl,rfl⟩) Tryz.underlying136 rfl (Yb _ rfl)
    ·rw[(by have h:=HQV.out; rw[if_pos Zo] at h; exact h.symm:R= .bad 43 at_)];exact Ym HTK.out _ _ _ (rfl) ⟨rfl,rfl,rfl,rfl⟩
   )
end
section
variable (B b:Nat)(s:ByteArray)(at_:Nat)(sp:List (Nat×Nat))(v:Value)(w X:World)(R:TokR)(x:Nat)(cv ix:Int)(C:Code)
theorem Yom:Arm B b s at_ sp v w X R x cv ix C (¬((x:Int)=39\/(x:Int)=34)->Hid (¬(steB (bt s at_)=true/\bt s (at_+1)=46))->ix<0->cv=3->Yei B b s at_ sp v w X R x C):=by
 intro hC hs hlt _hB _hbB hx1 HB HV hbs hvl hT hR hI hnq HST hix hcv u13 u14 u15 u16 u17 u18 u19 u20 u21 u22 u23 u24 u25;clear _hB _hbB;have hcl3:=hT.1.scan.row.c2 x hx1;rw[HV.out] at hcl3;have hsp3:=hT.1.nm_cell;have hpl3:=hT.1.pl_cell;have hc03:=hT.1.scan.row.c0;have hx2:(x:Int)<256:=Zo;have hX:X.heap.size=w.heap.size+3:=by have:=hT.2; simp at this; omega
 have n39:((x:Int)==39)=false:=by simp; omega
 have n34:((x:Int)==34)=false:=by simp; omega
 have HQ:Hid (¬(bt s at_=39\/bt s at_=34)):=by rw[<-HB.out]; exact hnq
 clear hnq;obtain rfl:cv=3:=hcv;have HC:Hid (cls (bt s at_).toNat=3):=by rw[<-HB.out]; exact HV.out
 have i0:decide (0<=ix)=false:=Zf;have H3:Hid (cls (bt s at_).toNat=3\/(bt s at_=45/\cls (bt s (at_+1)).toNat=3)):=.inl HC.out;have HQV:=Zh (YgP hR.out HQ.out (by rw[HC.out]; decide) HST.out (by rw[HC.out]; decide) H3.out);have hfin:=YW s (fun c=>cls c.toNat==3) (at_+1) Zo;have hfd:Yf s (fun c=>cls c.toNat==3) (at_+1)=digE s (at_+1):=rfl;rw[hfd] at hfin;have e1:IntKind.i64.wrap ((at_:Int)+1)=(at_:Int)+1:=IntWalk.i64_in _ Zo;conv=>arg 2; arg 1; whnf
 conv=>arg 2; arg 2; arg 1; whnf
 conv=>arg 2; arg 2; arg 2; arg 1; whnf
 go_wp2_with fail;generalize World.alloc X _=W4 at hT hcl3 hsp3 hpl3 hc03⊢;refine(hI _).mono ?_;rintro e w1 ⟨rfl,rfl⟩;clear hI;go_wp2_with fail;go_quiet (fail)
 go_wp2_with fail;go_loopw [10] (fun i wr=>∃k:Nat,at_+1<=k/\k<=s.size/\i= .int .i64 k/\Hid (digE s k=digE s (at_+1))/\Hid (∃d,wr=W4.drewN d)) (fun i _=>s.size - (intOf i).toNat)
 case atStart=>exact⟨at_+1,by omega,by omega,by first | rfl | simp,rfl,⟨_,rfl⟩⟩
 case round=>
  obtain⟨k,hk1,hk2,rfl,hD,hQd⟩:=hrel;have hTr:TokW B b s at_ at_ sp v w wr zTok:=by obtain⟨d,rfl⟩:=hQd.out; exact hT.1.drewN d
  have q0:=hTr.scan.row.c0;have q3:=hTr.nm_cell;have q4:=hTr.pl_cell;by_cases hltk:k<s.size
  ·have hl:decide (k<s.size)=true:=by simpa using hltk
   have hx3:(s[k]'hltk).toNat<256:=(s[k]).toNat_lt;have HBk:Hid (((s[k]'hltk).toNat:Int)=bt s k):=Je hltk;have q2:=hTr.scan.row.c2 (s[k]'hltk).toNat hx3;generalize hvk:cls (s[k]'hltk).toNat=vk at q2;have HVk:=Zh hvk;clear hvk;have HCk:Hid (cls (bt s k).toNat=vk):=by rw[<-HBk.out]; exact HVk.out
   by_cases e3:vk=3
   ·subst e3;go_wp2;go_quiet (fail)
    go_wp2;go_roundw
    case rel=>exact⟨k+1,by omega,by omega,by go_num,(YE hltk (by simpa using HCk.out)).symm.trans hD.out,YcR hQd⟩
    case measure=>simp[intOf]; omega
   ·have n3:(vk==3)=false:=by simpa using e3
    have hfk:Hid (k=digE s (at_+1)):=by rw[<-hD.out]; exact Zh (YD (by rintro⟨_,q⟩; rw[show(cls (bt s k).toNat==3)=true↔vk=3 by rw[HCk.out]; simp] at q; exact e3 q)).symm
    go_wp2;go_quiet (fail)
    go_wp2_with fail;refine(take_any B b w.heap.size (w.heap.size+2) s at_ at_ k 4 sp v _ hs (hTr.scan.drewN _) hTr.nm hTr.pl Zo Zo Zo).mono ?_;rintro e w5 ⟨rfl,hsc5,hkp5⟩;have hT5:=(hTr.drewN _).step hkp5 hsc5 hbs;rw[<-hfk.out] at HQV;generalize hTX:s.extract at_ k=tx at HQV⊢;have HTX:=Zh hTX.symm;clear hTX hkp5 hsc5;generalize hNB:Y8 tx=nb at HQV;go_wp2_with (refine wpList_store_row rfl 136 (.tmp 7) (.tmp 147) rfl (w.heap.size+3) (Yd 4 tx at_) rfl rfl 136 zTok hT5.tok (Yb _ rfl) rfl (YR _ _ _) ?_; have hT6:=hT5.setTok hbs hvl (Yd 4 tx at_); have hc6:=hT6.tok_text; generalize w5.setRow (w.heap.size+3) (Yd 4 tx at_)=W6 at hT6 hc6⊢);refine(Yao tx W6).mono ?_;rintro e w7 ⟨rfl,hb7⟩;have hT7:=hT6.below hb7;clear hT6 hc6 hb7;rw[hNB];cases nb
    ·go_wp2_with fail;have tE:=Jb (hT7);obtain⟨t0,t1,t2,f0,f1,f2⟩:=tE;have hple:=(hT7).pl_cell;have HTK:=Zh (hT7);have hlt6:w.heap.size+1<w7.heap.size:=by have:=hT7.lt; omega
     go_region
     all_goals go_wp2
     all_goals
      refine bodyPost_ret (v:=.tuple #[.agg zTok,.iface 190 (.pointer (some ⟨w7.heap.size,0,none⟩))]) ?_ rfl ?_
      ·exact Ya rfl _ _ (w.heap.size+1) 136 zTok (0,0) _ _ rfl rfl (Yn HTK.out _ ⟨rfl,rfl,rfl,rfl⟩) Tryz.underlying136 rfl (Yb _ rfl)
      ·rw[(by have h:=HQV.out; rw[if_neg Zd] at h; exact h.symm:R= .bad 43 at_)];exact Ym HTK.out _ _ _ (rfl) ⟨rfl,rfl,rfl,rfl⟩
    ·go_wp2_with fail;apply hC _ k _ tx (Zh (by have h:=HQV.out; simpa using h)) HTX hT7 hT7.lt
  ·have hl:decide (k<s.size)=false:=by simpa using hltk
   have hfk:Hid (k=digE s (at_+1)):=by rw[<-hD.out]; exact Zh (YD (fun q=>hltk q.1)).symm
   go_wp2;go_quiet (fail)
   go_wp2_with fail;refine(take_any B b w.heap.size (w.heap.size+2) s at_ at_ k 4 sp v _ hs (hTr.scan.drewN _) hTr.nm hTr.pl Zo Zo Zo).mono ?_;rintro e w5 ⟨rfl,hsc5,hkp5⟩;have hT5:=(hTr.drewN _).step hkp5 hsc5 hbs;rw[<-hfk.out] at HQV;generalize hTX:s.extract at_ k=tx at HQV⊢;have HTX:=Zh hTX.symm;clear hTX hkp5 hsc5;generalize hNB:Y8 tx=nb at HQV;go_wp2_with (refine wpList_store_row rfl 136 (.tmp 7) (.tmp 147) rfl (w.heap.size+3) (Yd 4 tx at_) rfl rfl 136 zTok hT5.tok (Yb _ rfl) rfl (YR _ _ _) ?_; have hT6:=hT5.setTok hbs hvl (Yd 4 tx at_); have hc6:=hT6.tok_text; generalize w5.setRow (w.heap.size+3) (Yd 4 tx at_)=W6 at hT6 hc6⊢);refine(Yao tx W6).mono ?_;rintro e w7 ⟨rfl,hb7⟩;have hT7:=hT6.below hb7;clear hT6 hc6 hb7;rw[hNB];cases nb
   ·go_wp2_with fail;have tE:=Jb (hT7);obtain⟨t0,t1,t2,f0,f1,f2⟩:=tE;have hple:=(hT7).pl_cell;have HTK:=Zh (hT7);have hlt6:w.heap.size+1<w7.heap.size:=by have:=hT7.lt; omega
    go_region
    all_goals go_wp2
    all_goals
     refine bodyPost_ret (v:=.tuple #[.agg zTok,.iface 190 (.pointer (some ⟨w7.heap.size,0,none⟩))]) ?_ rfl ?_
     ·exact Ya rfl _ _ (w.heap.size+1) 136 zTok (0,0) _ _ rfl rfl (Yn HTK.out _ ⟨rfl,rfl,rfl,rfl⟩) Tryz.underlying136 rfl (Yb _ rfl)
     ·rw[(by have h:=HQV.out; rw[if_neg Zd] at h; exact h.symm:R= .bad 43 at_)];exact Ym HTK.out _ _ _ (rfl) ⟨rfl,rfl,rfl,rfl⟩
   ·go_wp2_with fail;apply hC _ k _ tx (Zh (by have h:=HQV.out; simpa using h)) HTX hT7 hT7.lt
theorem Yol:Arm B b s at_ sp v w X R x cv ix C (¬((x:Int)=39\/(x:Int)=34)->Hid (¬(steB (bt s at_)=true/\bt s (at_+1)=46))->ix<0->cv=0->((x:Int)==45)=true->cls (bt s (at_+1)).toNat=3->Yei B b s at_ sp v w X R x C):=by
 intro hC hs hlt _hB _hbB hx1 HB HV hbs hvl hT hR hI hnq HST hix hcv h45 hny u13 u14 u15 u16 u17 u18 u19 u20 u21 u22 u23 u24 u25;clear _hB _hbB;have hcl3:=hT.1.scan.row.c2 x hx1;rw[HV.out] at hcl3;have hsp3:=hT.1.nm_cell;have hpl3:=hT.1.pl_cell;have hc03:=hT.1.scan.row.c0;have hx2:(x:Int)<256:=Zo;have hX:X.heap.size=w.heap.size+3:=by have:=hT.2; simp at this; omega
 have n39:((x:Int)==39)=false:=by simp; omega
 have n34:((x:Int)==34)=false:=by simp; omega
 have HQ:Hid (¬(bt s at_=39\/bt s at_=34)):=by rw[<-HB.out]; exact hnq
 clear hnq;obtain rfl:cv=0:=hcv;have HC:Hid (cls (bt s at_).toNat=0):=by rw[<-HB.out]; exact HV.out
 have i0:decide (0<=ix)=false:=Zf;have H3:Hid (cls (bt s at_).toNat=3\/(bt s at_=45/\cls (bt s (at_+1)).toNat=3)):=.inr ⟨by rw[<-HB.out]; simpa using h45,hny⟩;have HQV:=Zh (YgP hR.out HQ.out (by rw[HC.out]; decide) HST.out (by rw[HC.out]; decide) H3.out);have hfin:=YW s (fun c=>cls c.toNat==3) (at_+1) Zo;have hfd:Yf s (fun c=>cls c.toNat==3) (at_+1)=digE s (at_+1):=rfl;rw[hfd] at hfin;have e1:IntKind.i64.wrap ((at_:Int)+1)=(at_:Int)+1:=IntWalk.i64_in _ Zo;obtain⟨y,hy⟩:∃y:Nat,bt s (at_+1)=y:=⟨(bt s (at_+1)).toNat,by have:=Yan s (at_+1); omega⟩;have hy1:y<256:=by have:=YaU s (at_+1); omega
 have hy2:(y:Int)<256:=Zo;have hcy:=hT.1.scan.row.c2 y hy1;generalize hcz:cls y=cz at hcy;have hcz3:cz=3:=by rw[<-hcz,<-hny,hy]; rfl
 subst hcz3;conv=>arg 2; arg 1; whnf
 conv=>arg 2; arg 2; arg 1; whnf
 conv=>arg 2; arg 2; arg 2; arg 1; whnf
 go_wp2_with fail;generalize World.alloc X _=W4 at hT hcl3 hsp3 hpl3 hc03 hcy⊢;refine(hI _).mono ?_;rintro e w1 ⟨rfl,rfl⟩;clear hI;go_wp2_with fail;have hnx:=fun k=>Ye3 b s at_ v (W4.drewN k) Zo (hT.1.scan.drewN k).row;rw[hy] at hnx;go_quiet ((go_at_call 211; first | exact Yck hnx | exact Ybu hnx))
 go_wp2_with fail;go_loopw [10] (fun i wr=>∃k:Nat,at_+1<=k/\k<=s.size/\i= .int .i64 k/\Hid (digE s k=digE s (at_+1))/\Hid (∃d,wr=W4.drewN d)) (fun i _=>s.size - (intOf i).toNat)
 case atStart=>exact⟨at_+1,by omega,by omega,by first | rfl | simp,rfl,⟨_,rfl⟩⟩
 case round=>
  obtain⟨k,hk1,hk2,rfl,hD,hQd⟩:=hrel;have hTr:TokW B b s at_ at_ sp v w wr zTok:=by obtain⟨d,rfl⟩:=hQd.out; exact hT.1.drewN d
  have q0:=hTr.scan.row.c0;have q3:=hTr.nm_cell;have q4:=hTr.pl_cell;by_cases hltk:k<s.size
  ·have hl:decide (k<s.size)=true:=by simpa using hltk
   have hx3:(s[k]'hltk).toNat<256:=(s[k]).toNat_lt;have HBk:Hid (((s[k]'hltk).toNat:Int)=bt s k):=Je hltk;have q2:=hTr.scan.row.c2 (s[k]'hltk).toNat hx3;generalize hvk:cls (s[k]'hltk).toNat=vk at q2;have HVk:=Zh hvk;clear hvk;have HCk:Hid (cls (bt s k).toNat=vk):=by rw[<-HBk.out]; exact HVk.out
   by_cases e3:vk=3
   ·subst e3;go_wp2;go_quiet (fail)
    go_wp2;go_roundw
    case rel=>exact⟨k+1,by omega,by omega,by go_num,(YE hltk (by simpa using HCk.out)).symm.trans hD.out,YcR hQd⟩
    case measure=>simp[intOf]; omega
   ·have n3:(vk==3)=false:=by simpa using e3
    have hfk:Hid (k=digE s (at_+1)):=by rw[<-hD.out]; exact Zh (YD (by rintro⟨_,q⟩; rw[show(cls (bt s k).toNat==3)=true↔vk=3 by rw[HCk.out]; simp] at q; exact e3 q)).symm
    go_wp2;go_quiet (fail)
    go_wp2_with fail;refine(take_any B b w.heap.size (w.heap.size+2) s at_ at_ k 4 sp v _ hs (hTr.scan.drewN _) hTr.nm hTr.pl Zo Zo Zo).mono ?_;rintro e w5 ⟨rfl,hsc5,hkp5⟩;have hT5:=(hTr.drewN _).step hkp5 hsc5 hbs;rw[<-hfk.out] at HQV;generalize hTX:s.extract at_ k=tx at HQV⊢;have HTX:=Zh hTX.symm;clear hTX hkp5 hsc5;generalize hNB:Y8 tx=nb at HQV;go_wp2_with (refine wpList_store_row rfl 136 (.tmp 7) (.tmp 147) rfl (w.heap.size+3) (Yd 4 tx at_) rfl rfl 136 zTok hT5.tok (Yb _ rfl) rfl (YR _ _ _) ?_; have hT6:=hT5.setTok hbs hvl (Yd 4 tx at_); have hc6:=hT6.tok_text; generalize w5.setRow (w.heap.size+3) (Yd 4 tx at_)=W6 at hT6 hc6⊢);refine(Yao tx W6).mono ?_;rintro e w7 ⟨rfl,hb7⟩;have hT7:=hT6.below hb7;clear hT6 hc6 hb7;rw[hNB];cases nb
    ·go_wp2_with fail;have tE:=Jb (hT7);obtain⟨t0,t1,t2,f0,f1,f2⟩:=tE;have hple:=(hT7).pl_cell;have HTK:=Zh (hT7);have hlt6:w.heap.size+1<w7.heap.size:=by have:=hT7.lt; omega
     go_region
     all_goals go_wp2
     all_goals
      refine bodyPost_ret (v:=.tuple #[.agg zTok,.iface 190 (.pointer (some ⟨w7.heap.size,0,none⟩))]) ?_ rfl ?_
      ·exact Ya rfl _ _ (w.heap.size+1) 136 zTok (0,0) _ _ rfl rfl (Yn HTK.out _ ⟨rfl,rfl,rfl,rfl⟩) Tryz.underlying136 rfl (Yb _ rfl)
      ·rw[(by have h:=HQV.out; rw[if_neg Zd] at h; exact h.symm:R= .bad 43 at_)];exact Ym HTK.out _ _ _ (rfl) ⟨rfl,rfl,rfl,rfl⟩
    ·go_wp2_with fail;apply hC _ k _ tx (Zh (by have h:=HQV.out; simpa using h)) HTX hT7 hT7.lt
  ·have hl:decide (k<s.size)=false:=by simpa using hltk
   have hfk:Hid (k=digE s (at_+1)):=by rw[<-hD.out]; exact Zh (YD (fun q=>hltk q.1)).symm
   go_wp2;go_quiet (fail)
   go_wp2_with fail;refine(take_any B b w.heap.size (w.heap.size+2) s at_ at_ k 4 sp v _ hs (hTr.scan.drewN _) hTr.nm hTr.pl Zo Zo Zo).mono ?_;rintro e w5 ⟨rfl,hsc5,hkp5⟩;have hT5:=(hTr.drewN _).step hkp5 hsc5 hbs;rw[<-hfk.out] at HQV;generalize hTX:s.extract at_ k=tx at HQV⊢;have HTX:=Zh hTX.symm;clear hTX hkp5 hsc5;generalize hNB:Y8 tx=nb at HQV;go_wp2_with (refine wpList_store_row rfl 136 (.tmp 7) (.tmp 147) rfl (w.heap.size+3) (Yd 4 tx at_) rfl rfl 136 zTok hT5.tok (Yb _ rfl) rfl (YR _ _ _) ?_; have hT6:=hT5.setTok hbs hvl (Yd 4 tx at_); have hc6:=hT6.tok_text; generalize w5.setRow (w.heap.size+3) (Yd 4 tx at_)=W6 at hT6 hc6⊢);refine(Yao tx W6).mono ?_;rintro e w7 ⟨rfl,hb7⟩;have hT7:=hT6.below hb7;clear hT6 hc6 hb7;rw[hNB];cases nb
   ·go_wp2_with fail;have tE:=Jb (hT7);obtain⟨t0,t1,t2,f0,f1,f2⟩:=tE;have hple:=(hT7).pl_cell;have HTK:=Zh (hT7);have hlt6:w.heap.size+1<w7.heap.size:=by have:=hT7.lt; omega
    go_region
    all_goals go_wp2
    all_goals
     refine bodyPost_ret (v:=.tuple #[.agg zTok,.iface 190 (.pointer (some ⟨w7.heap.size,0,none⟩))]) ?_ rfl ?_
     ·exact Ya rfl _ _ (w.heap.size+1) 136 zTok (0,0) _ _ rfl rfl (Yn HTK.out _ ⟨rfl,rfl,rfl,rfl⟩) Tryz.underlying136 rfl (Yb _ rfl)
     ·rw[(by have h:=HQV.out; rw[if_neg Zd] at h; exact h.symm:R= .bad 43 at_)];exact Ym HTK.out _ _ _ (rfl) ⟨rfl,rfl,rfl,rfl⟩
   ·go_wp2_with fail;apply hC _ k _ tx (Zh (by have h:=HQV.out; simpa using h)) HTX hT7 hT7.lt
end
def Yd1 (k:Int)(t:ByteArray):ByteArray:=if chkB k t=0 then YS k t else ⟨#[]⟩
theorem Yk8 (kind:Int)(text:ByteArray)(a:Int)(w:World)(hs:text.size<=1000000):
 Calls Tryz.prog 81 #[.agg #[.int .i64 kind,.string text,.int .i64 a]] w fun e w'=>e= .returned (.tuple #[.string (Yd1 kind text),.int .i64 (chkB kind text)])/\Below w.heap.size w w':=by
 have hC:=fun w=>Yoe kind text a w;rcases YiN kind text with hc | hc
 ·have HWB:Hid (Yd1 kind text=YS kind text):=Zh (by unfold Yd1; rw[if_pos hc]);rw[hc] at hC⊢;clear hc;by_cases k1:kind=1
  ·subst k1;have hq:∀w,Calls Tryz.prog 128 #[.string text,.int .u8 39] w fun e w'=>e= .returned (.string (YX 39 text))/\Below w.heap.size w w':=fun w=>Ygd text 39 (.inl rfl) w hs;go_enter Tryz.func81,Tryz.ntmps81;go_wp2_with fail;have hT:=heap_alloc_new w (.cells #[.int .i64 1,.string text,.int .i64 a] 136);have hbW:Below w.heap.size w (w.alloc (.cells #[.int .i64 1,.string text,.int .i64 a] 136)):=below_alloc1 _ _;refine(hC _).mono ?_;rintro e w1 ⟨rfl,hb⟩;have hT1:=(hb.block w.heap.size Zs).trans hT;have c0:w1.cell? ⟨w.heap.size,0,none⟩=some (.int .i64 1):=by simp[World.cell?,hT1]
   have c1:w1.cell? ⟨w.heap.size,1,none⟩=some (.string text):=by simp[World.cell?,hT1]
   have hb3:Below w.heap.size w w1:=hbW.trans (hb.mono Zs);clear hT hbW hb hT1 hC;go_wp2_with fail;refine(hq _).mono ?_;rintro e w2 ⟨rfl,hb⟩;go_wp2;go_ret2
   exact⟨by rw[HWB.out]; rfl,hb3.trans (hb.mono hb3.size)⟩
  by_cases k2:kind=2
  ·subst k2;have hq:∀w,Calls Tryz.prog 128 #[.string text,.int .u8 34] w fun e w'=>e= .returned (.string (YX 34 text))/\Below w.heap.size w w':=fun w=>Ygd text 34 (.inr rfl) w hs;clear k1;go_enter Tryz.func81,Tryz.ntmps81;go_wp2_with fail;have hT:=heap_alloc_new w (.cells #[.int .i64 2,.string text,.int .i64 a] 136);have hbW:Below w.heap.size w (w.alloc (.cells #[.int .i64 2,.string text,.int .i64 a] 136)):=below_alloc1 _ _;refine(hC _).mono ?_;rintro e w1 ⟨rfl,hb⟩;have hT1:=(hb.block w.heap.size Zs).trans hT;have c0:w1.cell? ⟨w.heap.size,0,none⟩=some (.int .i64 2):=by simp[World.cell?,hT1]
   have c1:w1.cell? ⟨w.heap.size,1,none⟩=some (.string text):=by simp[World.cell?,hT1]
   have hb3:Below w.heap.size w w1:=hbW.trans (hb.mono Zs);clear hT hbW hb hT1 hC;go_wp2_with fail;refine(hq _).mono ?_;rintro e w2 ⟨rfl,hb⟩;go_wp2;go_ret2
   exact⟨by rw[HWB.out]; rfl,hb3.trans (hb.mono hb3.size)⟩
  have q1:(kind==1)=false:=by simpa using k1
  have q2:(kind==2)=false:=by simpa using k2
  have HX:Hid (YS kind text=text):=Zh (by unfold YS; rw[if_neg k1,if_neg k2]);clear k1 k2;go_enter Tryz.func81,Tryz.ntmps81;go_wp2_with fail;have hT:=heap_alloc_new w (.cells #[.int .i64 kind,.string text,.int .i64 a] 136);have hbW:Below w.heap.size w (w.alloc (.cells #[.int .i64 kind,.string text,.int .i64 a] 136)):=below_alloc1 _ _;refine(hC _).mono ?_;rintro e w1 ⟨rfl,hb⟩;have hT1:=(hb.block w.heap.size Zs).trans hT;have c0:w1.cell? ⟨w.heap.size,0,none⟩=some (.int .i64 kind):=by simp[World.cell?,hT1]
  have c1:w1.cell? ⟨w.heap.size,1,none⟩=some (.string text):=by simp[World.cell?,hT1]
  have hb3:Below w.heap.size w w1:=hbW.trans (hb.mono Zs);clear hT hbW hb hT1 hC;go_wp2;go_ret2
  exact⟨by rw[HWB.out,HX.out]; rfl,hb3⟩
 ·have HWB:Hid (Yd1 kind text=⟨#[]⟩):=Zh (by unfold Yd1; rw[if_neg (by rw[hc]; decide)]);rw[hc] at hC⊢;clear hc;go_enter Tryz.func81,Tryz.ntmps81;go_wp2_with fail;have hbW:Below w.heap.size w (w.alloc (.cells #[.int .i64 kind,.string text,.int .i64 a] 136)):=below_alloc1 _ _;refine(hC _).mono ?_;rintro e w1 ⟨rfl,hb⟩;have hb3:Below w.heap.size w w1:=hbW.trans (hb.mono Zs);clear hbW hb hC;go_wp2;go_ret2
  exact⟨by rw[HWB.out]; rfl,hb3⟩
def YqF (ao:Option Addr)(l:List Ti)(w:World):Prop:=
 l≠[]->∃b off,ao=some ⟨b,off,none⟩/\b<w.heap.size/\∀(k:Nat) (h:k<l.length),w.cell? ⟨b,off+k*3,none⟩=some (.int .i64 l[k].kind)/\w.cell? ⟨b,off+k*3+1,none⟩=some (.string l[k].text)/\w.cell? ⟨b,off+k*3+2,none⟩=some (.int .i64 l[k].at_)
theorem Yet {B b:Nat}{bs:List Value}{w w':World}(h:IsB B b bs w)(hb:Below w.heap.size w w'):IsB B b bs w':=by
 have go:∀p,Lib.BuilderAt 142 5 B b p bs w->Lib.BuilderAt 142 5 B b p bs w':=by
  rintro p ⟨hB,v,hbk,hown,hne⟩;exact⟨hB,v,(hb.block _ (Zg hbk).1).trans hbk,(Keep.of_below (S:=fun _=>False) hb).owns hown (fun _ _ q=>q),hne⟩
 exact h.imp (go _) (go _)
theorem Ypz (l:List Ti)(ao:Option Addr)(cap:Nat)(w:World)(hrow:YqF ao l w)(hM:∀x∈l,x.text.size<=100000)(hll:l.length<=100000):
 Calls Tryz.prog 34 #[.slice ao l.length cap] w fun e w'=>e= .returned (.tuple #[.string (YcO l).1,.int .i64 (YcO l).2])/\Below w.heap.size w w':=by
 have HR:=Zh hrow;have HM:=Zh hM;clear hrow hM;have hJL:∀k,k<=l.length->(Y6 l k).length<=100000000000:=fun k hk=>by
  have h1:=Yis HM.out k hk;have h2:k*(4*100000+3)<=100000*400003:=Nat.mul_le_mul Zo Zo;omega
 have HJL:=Zh hJL;clear hJL;go_enter Tryz.func34,Tryz.ntmps34;go_wp2;go_loopw [12] (fun i wr=>∃k:Nat,k<=l.length/\i= .int .i64 k/\Hid (IsB w.heap.size w.heap.size (Lib.byteCells (Y6 l k)) wr)/\Hid (Below w.heap.size w wr)/\Hid (∀j (h:j<l.length),j<k->chkB l[j].kind l[j].text=0)) (fun i _=>l.length - (intOf i).toNat)
 case atStart=>
  refine⟨0,Nat.zero_le _,rfl,Zh (.inl ⟨Nat.le_refl _,_,heap_alloc_new w _,⟨rfl,.inl ⟨rfl,rfl⟩⟩,by simp[Value.ownBlock]⟩),Zh (below_alloc1 _ _),Zh fun j _ h=>by omega⟩
 case round=>
  obtain⟨k,hk,rfl,HB,HW,HOK⟩:=hrel;by_cases hlt:k<l.length
  ·have l0:decide ((k:Int)<(l.length:Int))=true:=Zt;obtain⟨g,off,rfl,hgl,hcells⟩:=HR.out (by intro q; subst q; simp at hlt);have HC:=Zh hcells;clear hcells;obtain⟨q0,q1,q2⟩:=HC.out k hlt;have r0:=(HW.out.cell (p:=⟨g,off+k*3,none⟩) hgl).trans q0;have r1:=(HW.out.cell (p:=⟨g,off+k*3+1,none⟩) hgl).trans q1;have r2:=(HW.out.cell (p:=⟨g,off+k*3+2,none⟩) hgl).trans q2;clear q0 q1 q2;have HX:Hid (l[k].text.size<=100000):=Zh (HM.out _ (List.getElem_mem hlt));have HSEG:Hid (Y6 l (k+1)=Y6 l k++((if Yeg l k then [32] else [])++(YS l[k].kind l[k].text).data.toList)):=Zh (by rw[Yfa,Yjc hlt]);have HGAP:Hid (∀m (e:k=m+1),Yeg l k=(gapK l[k].kind&&gapK (l[m]'Zo).kind)):=Zh (by rintro m rfl; exact Ylu hlt);have HBAD:Hid (¬chkB l[k].kind l[k].text=0->YcO l=(ByteArray.empty,2)):=Zh (Ynh hlt);have HOK2:Hid (chkB l[k].kind l[k].text=0->∀j (h:j<l.length),j<k+1->chkB l[j].kind l[j].text=0):=Zh fun h j hj h2=>by
    by_cases e:j=k
    ·subst e; exact h
    ·exact HOK.out j hj Zo
   have hgw:g<wr.heap.size:=Nat.lt_of_lt_of_le hgl HW.out.size;generalize l[k]=x at r0 r1 r2 HX HSEG HGAP HBAD HOK2;obtain⟨kind,text,at_⟩:=x;dsimp only at r0 r1 r2 HX HSEG HGAP HBAD HOK2;have hW:=fun w=>Yk8 kind text at_ w (by have:=HX.out; omega);go_wp2_with fail;refine(hW _).mono ?_;rintro e w1 ⟨rfl,hb1⟩;rcases YiN kind text with hc | hc
   ·have HWB:Hid (Yd1 kind text=YS kind text):=Zh (by unfold Yd1; rw[if_pos hc]);have HOK3:=Zh (HOK2.out hc);have HT:Hid ((YS kind text).size<=400002):=Zh (by have:=Yc7 kind text; have:=HX.out; omega);rw[hc,HWB.out];clear HOK2 hc HWB HBAD HX;generalize YS kind text=T at HSEG HT⊢;have hT:=(hb1.block wr.heap.size Zs).trans (heap_alloc_new wr _);have HB1:Hid (IsB w.heap.size w.heap.size (Lib.byteCells (Y6 l k)) w1):=Zh (Yet (Yet HB.out (below_alloc1 wr _)) hb1);have HWr:Hid (Below wr.heap.size wr w1):=Zh ((below_alloc1 wr (.cells #[.int .i64 kind,.string text,.int .i64 at_] 136)).trans (hb1.mono Zs));have HW1:Hid (Below w.heap.size w w1):=Zh (HW.out.trans (HWr.out.mono HW.out.size));have hw1:wr.heap.size<w1.heap.size:=(Zg hT).1;have t0:w1.cell? ⟨wr.heap.size,0,none⟩=some (.int .i64 kind):=by simp[World.cell?,hT]
    have t1:w1.cell? ⟨wr.heap.size,1,none⟩=some (.string text):=by simp[World.cell?,hT]
    have t2:w1.cell? ⟨wr.heap.size,2,none⟩=some (.int .i64 at_):=by simp[World.cell?,hT]
    clear hb1 hT r0 r1 r2 hW;cases k with
    |
     zero=>
     go_wp2_with fail;refine(J2 w.heap.size w.heap.size _ T w1 (HB1).out (by rw[Lib.byteCells_length]; have h1:=HJL.out _ hk; have h3:=HT.out; omega) (HW1).out.size).mono ?_;rintro e w9 ⟨rfl,hU,hbU⟩;go_wp2_with fail;go_roundw
     case rel=>exact⟨0+1,by omega,by go_num,Zh (by rw[HSEG.out]; unfold Lib.byteCells; rw[Ylt,if_neg Zd,List.nil_append]; rw[List.map_append]; exact .inr hU),Zh ((HW1).out.trans hbU),HOK3⟩
     case measure=>simp[intOf]; omega
    |
     succ m=>
     have wm:IntKind.i64.wrap ((m:Int)+1 - 1)=m:=(IntWalk.i64_in _ Zo).trans Zo;have g0:decide ((0:Int)<(m:Int)+1)=true:=Zt;obtain⟨p0,p1,p2⟩:=HC.out m Zo;have hpv:=HGAP.out m rfl;have hml:m<l.length:=Zo;generalize l[m]=y at p0 p1 p2 hpv;obtain⟨ky,ty,ay⟩:=y;dsimp only at p0 p1 p2 hpv;have s0:=(HWr.out.cell (p:=⟨g,off+m*3,none⟩) hgw).trans ((HW.out.cell (p:=⟨g,off+m*3,none⟩) hgl).trans p0);have s1:=(HWr.out.cell (p:=⟨g,off+m*3+1,none⟩) hgw).trans ((HW.out.cell (p:=⟨g,off+m*3+1,none⟩) hgl).trans p1);have s2:=(HWr.out.cell (p:=⟨g,off+m*3+2,none⟩) hgw).trans ((HW.out.cell (p:=⟨g,off+m*3+2,none⟩) hgl).trans p2);have HPV:=Zh hpv;clear p0 p1 p2 hpv;go_wp2_with fail;refine(YiQ kind text at_ w1).mono ?_;rintro e w2 ⟨rfl,hb2⟩;have HB2:Hid (IsB w.heap.size w.heap.size (Lib.byteCells (Y6 l (m+1))) w2):=Zh (Yet HB1.out hb2);have HW2:Hid (Below w.heap.size w w2):=Zh (HW1.out.trans (hb2.mono HW1.out.size));have hgw1:g<w1.heap.size:=Zo;have z0:=(hb2.cell (p:=⟨g,off+m*3,none⟩) hgw1).trans s0;have z1:=(hb2.cell (p:=⟨g,off+m*3+1,none⟩) hgw1).trans s1;have z2:=(hb2.cell (p:=⟨g,off+m*3+2,none⟩) hgw1).trans s2;clear s0 s1 s2 hb2;cases hA:apartB kind with
     |
      false=>
      have HG:Hid (Yeg l (m+1)=false):=Zh (HPV.out.trans (by show(apartB kind&&_)=_; rw[hA]; rfl));go_wp2_with fail;refine(J2 w.heap.size w.heap.size _ T w2 (HB2).out (by rw[Lib.byteCells_length]; have h1:=HJL.out _ hk; have h3:=HT.out; omega) (HW2).out.size).mono ?_;rintro e w9 ⟨rfl,hU,hbU⟩;go_wp2_with fail;go_roundw
      case rel=>exact⟨m+1+1,by omega,by go_num,Zh (by rw[HSEG.out]; unfold Lib.byteCells; rw[HG.out,if_neg Zd,List.nil_append]; rw[List.map_append]; exact .inr hU),Zh ((HW2).out.trans hbU),HOK3⟩
      case measure=>simp[intOf]; omega
     |
      true=>
      have HG1:Hid (Yeg l (m+1)=apartB ky):=Zh (HPV.out.trans (by show(apartB kind&&_)=_; rw[hA]; rfl));go_wp2_with fail;refine(YiQ ky ty ay w2).mono ?_;rintro e w3 ⟨rfl,hb3⟩;have HB3:Hid (IsB w.heap.size w.heap.size (Lib.byteCells (Y6 l (m+1))) w3):=Zh (Yet HB2.out hb3);have HW3:Hid (Below w.heap.size w w3):=Zh (HW2.out.trans (hb3.mono HW2.out.size));clear hb3;cases hA2:apartB ky with
      |
       false=>
       have HG:Hid (Yeg l (m+1)=false):=Zh (HG1.out.trans hA2);go_wp2_with fail;refine(J2 w.heap.size w.heap.size _ T w3 (HB3).out (by rw[Lib.byteCells_length]; have h1:=HJL.out _ hk; have h3:=HT.out; omega) (HW3).out.size).mono ?_;rintro e w9 ⟨rfl,hU,hbU⟩;go_wp2_with fail;go_roundw
       case rel=>exact⟨m+1+1,by omega,by go_num,Zh (by rw[HSEG.out]; unfold Lib.byteCells; rw[HG.out,if_neg Zd,List.nil_append]; rw[List.map_append]; exact .inr hU),Zh ((HW3).out.trans hbU),HOK3⟩
       case measure=>simp[intOf]; omega
      |
       true=>
       have HG:Hid (Yeg l (m+1)=true):=Zh (HG1.out.trans hA2);go_wp2_with fail;refine(Yhp w.heap.size w.heap.size _ 32 w3 (HB3).out (by rw[Lib.byteCells_length]; have h1:=HJL.out _ hk; omega) (HW3).out.size).mono ?_;rintro e w4 ⟨rfl,hU4,hb4⟩;have HB4:Hid (IsB w.heap.size w.heap.size (Lib.byteCells (Y6 l (m+1))++[.int .u8 32]) w4):=Zh (.inr hU4);have HW4:Hid (Below w.heap.size w w4):=Zh (HW3.out.trans hb4);clear hU4 hb4;go_wp2_with fail;refine(J2 w.heap.size w.heap.size _ T w4 (HB4).out (by rw[List.length_append,Lib.byteCells_length]; have h1:=HJL.out _ hk; have h3:=HT.out; simp only[List.length_cons,List.length_nil]; omega) (HW4).out.size).mono ?_;rintro e w9 ⟨rfl,hU,hbU⟩;go_wp2_with fail;go_roundw
       case rel=>exact⟨m+1+1,by omega,by go_num,Zh (by rw[HSEG.out]; unfold Lib.byteCells; rw[HG.out,if_pos rfl]; rw[List.map_append,List.map_append,<-List.append_assoc]; exact .inr hU),Zh ((HW4).out.trans hbU),HOK3⟩
       case measure=>simp[intOf]; omega
   ·have HE:Hid (YcO l=(ByteArray.empty,2)):=Zh (HBAD.out (by rw[hc]; decide));have HWr:Hid (Below wr.heap.size wr w1):=Zh ((below_alloc1 wr (.cells #[.int .i64 kind,.string text,.int .i64 at_] 136)).trans (hb1.mono Zs));rw[hc];clear hc HBAD HOK2 hW hb1 HSEG HGAP;generalize Yd1 kind text=T;go_wp2_with fail;go_ret2
    exact⟨by rw[HE.out]; rfl,HW.out.trans (HWr.out.mono HW.out.size)⟩
  ·have l0:decide ((k:Int)<(l.length:Int))=false:=Zf;obtain rfl:k=l.length:=Zo;have HJ:Hid (YcO l=if 40000<(Y6 l l.length).length then (ByteArray.empty,7) else (⟨(Y6 l l.length).toArray⟩,0)):=Zh (by
    unfold YcO; rw[YkM (fun k h=>HOK.out k h h)])
   have hL:=Tryz.Builder_Len w.heap.size w.heap.size _ wr HB.out;rw[Lib.byteCells_length] at hL;by_cases h4:40000<(Y6 l l.length).length
   ·have l1:decide ((40000:Int)<((Y6 l l.length).length:Int))=true:=Zt;have HJ2:Hid (YcO l=(ByteArray.empty,7)):=Zh (by rw[HJ.out,if_pos h4]);clear h4;go_wp2_with fail;refine hL.mono ?_;rintro e w1 ⟨rfl,rfl⟩;clear hL;go_wp2_with fail;go_ret2
    exact⟨by rw[HJ2.out]; rfl,HW.out⟩
   ·have l1:decide ((40000:Int)<((Y6 l l.length).length:Int))=false:=Zf;have HJ2:Hid (YcO l=(⟨(Y6 l l.length).toArray⟩,0)):=Zh (by rw[HJ.out,if_neg h4]);clear h4;go_wp2_with fail;refine hL.mono ?_;rintro e w1 ⟨rfl,rfl⟩;clear hL;go_wp2_with fail;refine(Tryz.Builder_String_any w.heap.size w.heap.size (Y6 l l.length) w1 HB.out HW.out.size).mono ?_;rintro e w2 ⟨rfl,hb2⟩;go_wp2_with fail;go_ret2
    exact⟨by rw[HJ2.out]; rfl,HW.out.trans hb2⟩
end Go.Proofs.YteamjdmhdfjopaaGreatDoor
