/- A part of the proof; it holds the texts Tm App (names and blanks shortened). -/
import Derived.Test.YteamjdmhdfjopaaGreatDoorC1
import Derived.Test.YteamjdmhdfjopaaGreatDoorC2
import Derived.Maps.AppendAt
namespace Go.Proofs.YteamjdmhdfjopaaGreatDoor
open Go.RowKit
set_option maxRecDepth 100000
set_option maxHeartbeats 8000000
set_option linter.unusedVariables false
set_option linter.unusedSimpArgs false
def Ts.at (w:World)(S:Nat->Prop):Ts->Nat->Nat->Prop
 |.nil,_,_=>True
 |
  .cons k t kids rest,b,off=>w.cell? ⟨b,off,none⟩=some (.int .i64 k)/\w.cell? ⟨b,off+1,none⟩=some (.string t)/\
  (∃ao cap,w.cell? ⟨b,off+2,none⟩=some (.slice ao kids.len cap)/\(kids≠.nil->∃g o,ao=some ⟨g,o,none⟩/\S g/\kids.at w S g o/\kids.len<=cap))/\rest.at w S b (off+3)
def TsV (w:World)(S:Nat->Prop)(v:Value)(l:Ts):Prop:=
 ∃ao cap,v= .slice ao l.len cap/\(l≠.nil->∃g o,ao=some ⟨g,o,none⟩/\S g/\l.at w S g o/\l.len<=cap)
def Ts.flat (w:World)(S:Nat->Prop):Ts->List Value->Prop
 |.nil,xs=>xs=[]
 |.cons k t kids rest,xs=>∃v ys,xs= .int .i64 k::.string t::v::ys/\TsV w S v kids/\rest.flat w S ys
section
variable {w w':World}{S T:Nat->Prop}
theorem Ts.at_keep:∀(l:Ts) (b off:Nat),(S b\/l= .nil)->l.at w S b off->(∀k,S k->k<w.heap.size->w'.heap[k]? =w.heap[k]?)->(∀k,S k->k<w.heap.size->T k)->l.at w' T b off
 |.nil,_,_,_,_,_,_=>trivial
 |
  .cons k t kids rest,b,off,hS,h,hk,hT=>by
  have hS':S b:=hS.elim id (fun e=>by cases e);obtain⟨h0,h1,⟨ao,cap,h2,hkids⟩,hrest⟩:=h;have hb:b<w.heap.size:=World.block_lt_of_cell? w _ h0;have hcell:∀o,w'.cell? ⟨b,o,none⟩=w.cell? ⟨b,o,none⟩:=fun o=>World.cell?_of_block (w:=w) (hk b hS' hb);refine⟨(hcell _).trans h0,(hcell _).trans h1,⟨ao,cap,(hcell _).trans h2,fun hn=>?_⟩,Ts.at_keep rest b (off+3) (.inl hS') hrest hk hT⟩;obtain⟨g,o,e,hSg,hat,hcp⟩:=hkids hn;have hg:g<w.heap.size:=by
   cases kids with
   |nil=>exact absurd rfl hn
   |cons k' t' kk rr=>exact World.block_lt_of_cell? w _ hat.1
  exact⟨g,o,e,hT g hSg hg,Ts.at_keep kids g o (.inl hSg) hat hk hT,hcp⟩
theorem TsV.keep {v:Value}{l:Ts}(h:TsV w S v l)(hk:∀k,S k->k<w.heap.size->w'.heap[k]? =w.heap[k]?)(hT:∀k,S k->k<w.heap.size->T k):TsV w' T v l:=by
 obtain⟨ao,cap,e,hl⟩:=h;refine⟨ao,cap,e,fun hn=>?_⟩;obtain⟨g,o,e2,hS,hat,hcp⟩:=hl hn;have hg:g<w.heap.size:=by
  cases l with
  |nil=>exact absurd rfl hn
  |cons k' t' kk rr=>exact World.block_lt_of_cell? w _ hat.1
 exact⟨g,o,e2,hT g hS hg,Ts.at_keep l g o (.inl hS) hat hk hT,hcp⟩
theorem TsV.below {v:Value}{l:Ts}(h:TsV w S v l)(hb:Below w.heap.size w w')(hT:∀k,S k->k<w.heap.size->T k):TsV w' T v l:=h.keep (fun k _ hk=>hb.block k hk) hT
theorem TsV.nil (w:World)(S:Nat->Prop):TsV w S (.slice none 0 0) .nil:=⟨none,0,rfl,fun h=>absurd rfl h⟩
theorem TsV.tail0 {ao:Option Addr}{cap:Nat}{l:Ts}(h:l≠.nil->∃g o,ao=some ⟨g,o,none⟩/\S g/\l.at w S g o/\l.len<=cap):l≠.nil->∃g o,ao=some ⟨g,o,none⟩/\S g/\l.at w S g (o+0*3):=fun hn=>by
 obtain⟨g,o,e,h1,h2,_⟩:=h hn;exact⟨g,o,e,h1,by simpa using h2⟩
theorem TsV.form {v:Value}{l:Ts}(h:TsV w S v l):∃ao cap,v= .slice ao l.len cap:=by obtain⟨a,c,e,_⟩:=h; exact⟨a,c,e⟩
theorem TsV.one {v:Value}{l:Ts}(h:TsV w S v l):v.oneCell'=true:=by obtain⟨_,_,rfl,_⟩:=h; rfl
theorem Ts.flat_keep:∀(l:Ts) (xs:List Value),l.flat w S xs->(∀k,S k->k<w.heap.size->w'.heap[k]? =w.heap[k]?)->(∀k,S k->k<w.heap.size->T k)->l.flat w' T xs
 |.nil,_,h,_,_=>h
 |.cons _ _ _ rest,_,⟨v,ys,e,hv,hr⟩,hk,hT=>⟨v,ys,e,hv.keep hk hT,Ts.flat_keep rest ys hr hk hT⟩
theorem Ts.flat_len:∀(l:Ts) (xs:List Value),l.flat w S xs->xs.length=l.len*3
 |.nil,xs,h=>by rw[show xs=[] from h]; simp[Ts.len]
 |.cons _ _ _ rest,xs,⟨v,ys,e,_,hr⟩=>by rw[e]; simp only[List.length_cons,Ts.len,Ts.flat_len rest ys hr]; omega
theorem Ts.flat_one:∀(l:Ts) (xs:List Value),l.flat w S xs->∀u∈xs,u.oneCell'=true
 |.nil,xs,h,u,hu=>by rw[show xs=[] from h] at hu; cases hu
 |
  .cons _ _ _ rest,xs,⟨v,ys,e,hv,hr⟩,u,hu=>by
  rw[e] at hu;simp only[List.mem_cons] at hu;rcases hu with rfl | rfl | rfl | hu
  ·rfl
  ·rfl
  ·exact hv.one
  ·exact Ts.flat_one rest ys hr u hu
theorem Ts.flat_app:∀(a b:Ts) (xs ys:List Value),a.flat w S xs->b.flat w S ys->(a.app b).flat w S (xs++ys)
 |.nil,b,xs,ys,h,hb=>by rw[show xs=[] from h]; exact hb
 |.cons _ _ _ rest,b,xs,ys,⟨v,zs,e,hv,hr⟩,hb=>⟨v,zs++ys,by rw[e]; rfl,hv,Ts.flat_app rest b zs ys hr hb⟩
theorem Ts.flat_single (k:Int)(t:ByteArray){v:Value}{kids:Ts}(h:TsV w S v kids):(Ts.cons k t kids .nil).flat w S [.int .i64 k,.string t,v]:=⟨v,[],rfl,h,rfl⟩
theorem Ts.at_of_flat:∀(l:Ts) (xs:List Value) (b off:Nat),l.flat w S xs->(∀i u,xs[i]? =some u->w.cell? ⟨b,off+i,none⟩=some u)->l.at w S b off
 |.nil,_,_,_,_,_=>trivial
 |
  .cons k t kids rest,xs,b,off,⟨v,ys,e,hv,hr⟩,hc=>by
  subst e;obtain⟨ao,cap,rfl,hkids⟩:=hv;exact⟨hc 0 _ rfl,hc 1 _ rfl,⟨ao,cap,hc 2 _ rfl,hkids⟩,Ts.at_of_flat rest ys b (off+3) hr (fun i u h=>by rw[Nat.add_assoc,Nat.add_comm 3 i]; exact hc (i+3) u h)⟩
theorem Ts.flat_to {l:Ts}{xs:List Value}(h:l.flat w S xs)(hT:∀k,S k->k<w.heap.size->T k):l.flat w T xs:=Ts.flat_keep l xs h (fun _ _ _=>rfl) hT
theorem TsV.to {v:Value}{l:Ts}(h:TsV w S v l)(hT:∀k,S k->k<w.heap.size->T k):TsV w T v l:=h.keep (fun _ _ _=>rfl) hT
theorem Yb5 {base e size n g o cap:Nat}{t:Option Nat}{xs:List Value}(h:w.ownsRow base e size (.slice (some ⟨g,o,t⟩) n cap) n xs):o=0/\t=none/\base<=g/\∀i u,xs[i]? =some u->w.cell? ⟨g,0+i,none⟩=some u:=by
 rcases h.2 with⟨e1,_⟩ | ⟨g',cap',cur,e1,hb,hh,_,_,_,hx⟩
 ·cases e1
 ·cases e1;refine⟨rfl,rfl,hb,fun i u hi=>?_⟩;rw[<-hx] at hi;have h1:cur.toList[i]? =some u:=by
   rw[List.getElem?_take] at hi;split at hi
   ·exact hi
   ·cases hi
  have h2:cur[i]? =some u:=by simpa using h1
  simp[World.cell?,hh,h2]
theorem YZ {base e size n:Nat}{v:Value}{xs:List Value}(h:w.ownsRow base e size v n xs):∃ao cap,v= .slice ao n cap/\(n≠0->∃g,ao=some ⟨g,0,none⟩):=by
 rcases h.2 with⟨e1,e2⟩ | ⟨g,cap,cur,e1,_⟩
 ·exact⟨none,0,by rw[e1,e2],fun q=>absurd e2 q⟩
 ·exact⟨_,cap,e1,fun _=>⟨g,rfl⟩⟩
theorem Yka {base e size n cap:Nat}{ao:Option Addr}{xs:List Value}(h:w.ownsRow base e size (.slice ao n cap) n xs):n<=cap:=by
 rcases h.2 with⟨e1,e2⟩ | ⟨g',cap',cur,e1,_,_,hnc,_⟩
 ·omega
 ·cases e1; exact hnc
theorem TsV.of_owns {base e:Nat}{v:Value}{l:Ts}{xs:List Value}(h:w.ownsRow base e 3 v l.len xs)(hf:l.flat w S xs)(hS:∀k,S k->T k)(hv:∀k,v.ownBlock=some k->base<=k->T k):TsV w T v l:=by
 obtain⟨ao,cap,rfl,hne⟩:=YZ h;refine⟨ao,cap,rfl,fun hn=>?_⟩;obtain⟨g,rfl⟩:=hne (fun q=>hn ((Ts.len_zero l).1 q));obtain⟨_,_,hb,hc⟩:=Yb5 h;have hTg:T g:=hv g rfl hb;exact⟨g,0,rfl,hTg,Ts.at_of_flat l xs g 0 (Ts.flat_to hf (fun k q _=>hS k q)) hc,Yka h⟩
end
def YbS (w:World)(S:Nat->Prop):List (Ts×Ts)->Nat->Nat->Prop
 |[],_,_=>True
 |x::l,b,off=>(∃v,w.cell? ⟨b,off,none⟩=some v/\TsV w S v x.1)/\(∃v,w.cell? ⟨b,off+1,none⟩=some v/\TsV w S v x.2)/\YbS w S l b (off+2)
def Y3 (w:World)(S:Nat->Prop)(v:Value)(l:List (Ts×Ts)):Prop:=
 ∃ao cap,v= .slice ao l.length cap/\(l≠[]->∃g o,ao=some ⟨g,o,none⟩/\S g/\YbS w S l g o)
def Yaf (w:World)(S:Nat->Prop):List (Ts×Ts)->List Value->Prop
 |[],xs=>xs=[]
 |x::l,xs=>∃v u ys,xs=v::u::ys/\TsV w S v x.1/\TsV w S u x.2/\Yaf w S l ys
def Ss.at (w:World)(S:Nat->Prop):Ss->Nat->Nat->Prop
 |.nil,_,_=>True
 |
  .cons left tests right subject block rest,b,off=>(∃v,w.cell? ⟨b,off,none⟩=some v/\TsV w S v left)/\(∃v,w.cell? ⟨b,off+1,none⟩=some v/\Y3 w S v tests)/\(∃v,w.cell? ⟨b,off+2,none⟩=some v/\TsV w S v right)/\
  (∃v,w.cell? ⟨b,off+3,none⟩=some v/\TsV w S v subject)/\(∃ao cap,w.cell? ⟨b,off+4,none⟩=some (.slice ao block.len cap)/\(block≠.nil->∃g o,ao=some ⟨g,o,none⟩/\S g/\block.at w S g o))/\rest.at w S b (off+5)
def SsV (w:World)(S:Nat->Prop)(v:Value)(l:Ss):Prop:=
 ∃ao cap,v= .slice ao l.len cap/\(l≠.nil->∃g o,ao=some ⟨g,o,none⟩/\S g/\l.at w S g o)
def Ss.flat (w:World)(S:Nat->Prop):Ss->List Value->Prop
 |.nil,xs=>xs=[]
 |.cons left tests right subject block rest,xs=>∃v0 v1 v2 v3 v4 ys,xs=v0::v1::v2::v3::v4::ys/\TsV w S v0 left/\Y3 w S v1 tests/\TsV w S v2 right/\TsV w S v3 subject/\SsV w S v4 block/\rest.flat w S ys
def funcsAt (w:World)(S:Nat->Prop):List Fn->Nat->Nat->Prop
 |[],_,_=>True
 |f::l,b,off=>w.cell? ⟨b,off,none⟩=some (.string f.name)/\w.cell? ⟨b,off+1,none⟩=some (.bool f.entry)/\(∃v,w.cell? ⟨b,off+2,none⟩=some v/\SsV w S v f.sents)/\funcsAt w S l b (off+3)
def YaV (w:World)(S:Nat->Prop)(v:Value)(l:List Fn):Prop:=
 ∃ao cap,v= .slice ao l.length cap/\(l≠[]->∃g o,ao=some ⟨g,o,none⟩/\S g/\funcsAt w S l g o)
def JZ (w:World)(S:Nat->Prop):List Fn->List Value->Prop
 |[],xs=>xs=[]
 |f::l,xs=>∃v ys,xs= .string f.name::.bool f.entry::v::ys/\SsV w S v f.sents/\JZ w S l ys
def YeK (w:World):List ByteArray->Nat->Nat->Prop
 |[],_,_=>True
 |s::l,b,off=>w.cell? ⟨b,off,none⟩=some (.string s)/\YeK w l b (off+1)
def JG (w:World)(S:Nat->Prop)(v:Value)(l:List ByteArray):Prop:=
 ∃ao cap,v= .slice ao l.length cap/\(l≠[]->∃g o,ao=some ⟨g,o,none⟩/\S g/\YeK w l g o/\l.length<=cap)
section
variable {w w':World}{S T:Nat->Prop}
theorem Yah:∀(l:List (Ts×Ts)) (b off:Nat),(S b\/l=[])->YbS w S l b off->(∀k,S k->k<w.heap.size->w'.heap[k]? =w.heap[k]?)->(∀k,S k->k<w.heap.size->T k)->YbS w' T l b off
 |[],_,_,_,_,_,_=>trivial
 |
  x::l,b,off,hS,⟨⟨v,h0,hv⟩,⟨u,h1,hu⟩,hr⟩,hk,hT=>by
  have hS':S b:=hS.elim id (fun e=>by cases e);have hb:b<w.heap.size:=World.block_lt_of_cell? w _ h0;have hcell:∀o,w'.cell? ⟨b,o,none⟩=w.cell? ⟨b,o,none⟩:=fun o=>World.cell?_of_block (w:=w) (hk b hS' hb);exact⟨⟨v,(hcell _).trans h0,hv.keep hk hT⟩,⟨u,(hcell _).trans h1,hu.keep hk hT⟩,Yah l b (off+2) (.inl hS') hr hk hT⟩
theorem Y3.keep {v:Value}{l:List (Ts×Ts)}(h:Y3 w S v l)(hk:∀k,S k->k<w.heap.size->w'.heap[k]? =w.heap[k]?)(hT:∀k,S k->k<w.heap.size->T k):Y3 w' T v l:=by
 obtain⟨ao,cap,e,hl⟩:=h;refine⟨ao,cap,e,fun hn=>?_⟩;obtain⟨g,o,e2,hS,hat⟩:=hl hn;have hg:g<w.heap.size:=by
  cases l with
  |nil=>exact absurd rfl hn
  |cons x l=>obtain⟨⟨v,h0,_⟩,_⟩:=hat; exact World.block_lt_of_cell? w _ h0
 exact⟨g,o,e2,hT g hS hg,Yah l g o (.inl hS) hat hk hT⟩
theorem Ya5:∀(l:List (Ts×Ts)) (xs:List Value),Yaf w S l xs->(∀k,S k->k<w.heap.size->w'.heap[k]? =w.heap[k]?)->(∀k,S k->k<w.heap.size->T k)->Yaf w' T l xs
 |[],_,h,_,_=>h
 |_::l,_,⟨v,u,ys,e,hv,hu,hr⟩,hk,hT=>⟨v,u,ys,e,hv.keep hk hT,hu.keep hk hT,Ya5 l ys hr hk hT⟩
theorem Ycy:∀(l:List (Ts×Ts)) (x:Ts×Ts) (xs:List Value) (v u:Value),Yaf w S l xs->TsV w S v x.1->TsV w S u x.2->Yaf w S (l++[x]) (xs++[v,u])
 |[],x,xs,v,u,h,hv,hu=>by rw[show xs=[] from h]; exact⟨v,u,[],rfl,hv,hu,rfl⟩
 |_::l,x,_,v,u,⟨a,b,ys,e,ha,hb,hr⟩,hv,hu=>⟨a,b,ys++[v,u],by rw[e]; rfl,ha,hb,Ycy l x ys v u hr hv hu⟩
theorem YbR:∀(l:List (Ts×Ts)) (xs:List Value) (b off:Nat),Yaf w S l xs->(∀i u,xs[i]? =some u->w.cell? ⟨b,off+i,none⟩=some u)->YbS w S l b off
 |[],_,_,_,_,_=>trivial
 |
  x::l,xs,b,off,⟨v,u,ys,e,hv,hu,hr⟩,hc=>by
  subst e;exact⟨⟨v,hc 0 _ rfl,hv⟩,⟨u,hc 1 _ rfl,hu⟩,YbR l ys b (off+2) hr (fun i u h=>by rw[Nat.add_assoc,Nat.add_comm 2 i]; exact hc (i+2) u h)⟩
theorem Y3.of_owns {base e:Nat}{v:Value}{l:List (Ts×Ts)}{xs:List Value}(h:w.ownsRow base e 2 v l.length xs)(hf:Yaf w S l xs)(hS:∀k,S k->T k)(hv:∀k,v.ownBlock=some k->base<=k->T k):Y3 w T v l:=by
 obtain⟨ao,cap,rfl,hne⟩:=YZ h;refine⟨ao,cap,rfl,fun hn=>?_⟩;obtain⟨g,rfl⟩:=hne (fun q=>hn (List.eq_nil_of_length_eq_zero q));obtain⟨_,_,hb,hc⟩:=Yb5 h;exact⟨g,0,rfl,hv g rfl hb,YbR l xs g 0 (Ya5 l xs hf (fun _ _ _=>rfl) (fun k q _=>hS k q)) hc⟩
theorem Ss.at_keep:∀(l:Ss) (b off:Nat),(S b\/l= .nil)->l.at w S b off->(∀k,S k->k<w.heap.size->w'.heap[k]? =w.heap[k]?)->(∀k,S k->k<w.heap.size->T k)->l.at w' T b off
 |.nil,_,_,_,_,_,_=>trivial
 |
  .cons left tests right subject block rest,b,off,hS,h,hk,hT=>by
  have hS':S b:=hS.elim id (fun e=>by cases e);obtain⟨⟨v0,h0,q0⟩,⟨v1,h1,q1⟩,⟨v2,h2,q2⟩,⟨v3,h3,q3⟩,⟨ao,cap,h4,hblock⟩,hrest⟩:=h;have hb:b<w.heap.size:=World.block_lt_of_cell? w _ h0;have hcell:∀o,w'.cell? ⟨b,o,none⟩=w.cell? ⟨b,o,none⟩:=fun o=>World.cell?_of_block (w:=w) (hk b hS' hb);refine⟨⟨v0,(hcell _).trans h0,q0.keep hk hT⟩,⟨v1,(hcell _).trans h1,q1.keep hk hT⟩,⟨v2,(hcell _).trans h2,q2.keep hk hT⟩,⟨v3,(hcell _).trans h3,q3.keep hk hT⟩,⟨ao,cap,(hcell _).trans h4,fun hn=>?_⟩,Ss.at_keep rest b (off+5) (.inl hS') hrest hk hT⟩;obtain⟨g,o,e,hSg,hat⟩:=hblock hn;have hg:g<w.heap.size:=by
   cases block with
   |nil=>exact absurd rfl hn
   |cons=>obtain⟨⟨v,h0,_⟩,_⟩:=hat; exact World.block_lt_of_cell? w _ h0
  exact⟨g,o,e,hT g hSg hg,Ss.at_keep block g o (.inl hSg) hat hk hT⟩
theorem SsV.keep {v:Value}{l:Ss}(h:SsV w S v l)(hk:∀k,S k->k<w.heap.size->w'.heap[k]? =w.heap[k]?)(hT:∀k,S k->k<w.heap.size->T k):SsV w' T v l:=by
 obtain⟨ao,cap,e,hl⟩:=h;refine⟨ao,cap,e,fun hn=>?_⟩;obtain⟨g,o,e2,hS,hat⟩:=hl hn;have hg:g<w.heap.size:=by
  cases l with
  |nil=>exact absurd rfl hn
  |cons=>obtain⟨⟨v,h0,_⟩,_⟩:=hat; exact World.block_lt_of_cell? w _ h0
 exact⟨g,o,e2,hT g hS hg,Ss.at_keep l g o (.inl hS) hat hk hT⟩
theorem SsV.nil (w:World)(S:Nat->Prop):SsV w S (.slice none 0 0) .nil:=⟨none,0,rfl,fun h=>absurd rfl h⟩
theorem Ss.flat_keep:∀(l:Ss) (xs:List Value),l.flat w S xs->(∀k,S k->k<w.heap.size->w'.heap[k]? =w.heap[k]?)->(∀k,S k->k<w.heap.size->T k)->l.flat w' T xs
 |.nil,_,h,_,_=>h
 |.cons _ _ _ _ _ rest,_,⟨v0,v1,v2,v3,v4,ys,e,h0,h1,h2,h3,h4,hr⟩,hk,hT=>⟨v0,v1,v2,v3,v4,ys,e,h0.keep hk hT,h1.keep hk hT,h2.keep hk hT,h3.keep hk hT,h4.keep hk hT,Ss.flat_keep rest ys hr hk hT⟩
theorem Ss.flat_app:∀(a b:Ss) (xs ys:List Value),a.flat w S xs->b.flat w S ys->(a.app b).flat w S (xs++ys)
 |.nil,b,xs,ys,h,hb=>by rw[show xs=[] from h]; exact hb
 |.cons _ _ _ _ _ rest,b,xs,ys,⟨v0,v1,v2,v3,v4,zs,e,h0,h1,h2,h3,h4,hr⟩,hb=>⟨v0,v1,v2,v3,v4,zs++ys,by rw[e]; rfl,h0,h1,h2,h3,h4,Ss.flat_app rest b zs ys hr hb⟩
theorem Ss.at_of_flat:∀(l:Ss) (xs:List Value) (b off:Nat),l.flat w S xs->(∀i u,xs[i]? =some u->w.cell? ⟨b,off+i,none⟩=some u)->l.at w S b off
 |.nil,_,_,_,_,_=>trivial
 |
  .cons left tests right subject block rest,xs,b,off,⟨v0,v1,v2,v3,v4,ys,e,h0,h1,h2,h3,h4,hr⟩,hc=>by
  subst e;obtain⟨ao,cap,rfl,hblock⟩:=h4;exact⟨⟨v0,hc 0 _ rfl,h0⟩,⟨v1,hc 1 _ rfl,h1⟩,⟨v2,hc 2 _ rfl,h2⟩,⟨v3,hc 3 _ rfl,h3⟩,⟨ao,cap,hc 4 _ rfl,hblock⟩,Ss.at_of_flat rest ys b (off+5) hr (fun i u h=>by rw[Nat.add_assoc,Nat.add_comm 5 i]; exact hc (i+5) u h)⟩
theorem Ss.len_zero:∀a:Ss,a.len=0↔a= .nil
 |.nil=>by simp[Ss.len]
 |.cons _ _ _ _ _ _=>by simp[Ss.len]
theorem SsV.of_owns {base e:Nat}{v:Value}{l:Ss}{xs:List Value}(h:w.ownsRow base e 5 v l.len xs)(hf:l.flat w S xs)(hS:∀k,S k->T k)(hv:∀k,v.ownBlock=some k->base<=k->T k):SsV w T v l:=by
 obtain⟨ao,cap,rfl,hne⟩:=YZ h;refine⟨ao,cap,rfl,fun hn=>?_⟩;obtain⟨g,rfl⟩:=hne (fun q=>hn ((Ss.len_zero l).1 q));obtain⟨_,_,hb,hc⟩:=Yb5 h;exact⟨g,0,rfl,hv g rfl hb,Ss.at_of_flat l xs g 0 (Ss.flat_keep l xs hf (fun _ _ _=>rfl) (fun k q _=>hS k q)) hc⟩
theorem Ya1:∀(l:List Fn) (b off:Nat),(S b\/l=[])->funcsAt w S l b off->(∀k,S k->k<w.heap.size->w'.heap[k]? =w.heap[k]?)->(∀k,S k->k<w.heap.size->T k)->funcsAt w' T l b off
 |[],_,_,_,_,_,_=>trivial
 |
  f::l,b,off,hS,⟨h0,h1,⟨v,h2,hv⟩,hr⟩,hk,hT=>by
  have hS':S b:=hS.elim id (fun e=>by cases e);have hb:b<w.heap.size:=World.block_lt_of_cell? w _ h0;have hcell:∀o,w'.cell? ⟨b,o,none⟩=w.cell? ⟨b,o,none⟩:=fun o=>World.cell?_of_block (w:=w) (hk b hS' hb);exact⟨(hcell _).trans h0,(hcell _).trans h1,⟨v,(hcell _).trans h2,hv.keep hk hT⟩,Ya1 l b (off+3) (.inl hS') hr hk hT⟩
theorem YaV.keep {v:Value}{l:List Fn}(h:YaV w S v l)(hk:∀k,S k->k<w.heap.size->w'.heap[k]? =w.heap[k]?)(hT:∀k,S k->k<w.heap.size->T k):YaV w' T v l:=by
 obtain⟨ao,cap,e,hl⟩:=h;refine⟨ao,cap,e,fun hn=>?_⟩;obtain⟨g,o,e2,hS,hat⟩:=hl hn;have hg:g<w.heap.size:=by
  cases l with
  |nil=>exact absurd rfl hn
  |cons x l=>exact World.block_lt_of_cell? w _ hat.1
 exact⟨g,o,e2,hT g hS hg,Ya1 l g o (.inl hS) hat hk hT⟩
theorem YaV.nil (w:World)(S:Nat->Prop):YaV w S (.slice none 0 0) []:=⟨none,0,rfl,fun h=>absurd rfl h⟩
theorem Yad:∀(l:List Fn) (xs:List Value),JZ w S l xs->(∀k,S k->k<w.heap.size->w'.heap[k]? =w.heap[k]?)->(∀k,S k->k<w.heap.size->T k)->JZ w' T l xs
 |[],_,h,_,_=>h
 |_::l,_,⟨v,ys,e,hv,hr⟩,hk,hT=>⟨v,ys,e,hv.keep hk hT,Yad l ys hr hk hT⟩
theorem YcE:∀(l:List Fn) (f:Fn) (xs:List Value) (v:Value),JZ w S l xs->SsV w S v f.sents->JZ w S (l++[f]) (xs++[.string f.name,.bool f.entry,v])
 |[],f,xs,v,h,hv=>by rw[show xs=[] from h]; exact⟨v,[],rfl,hv,rfl⟩
 |_::l,f,_,v,⟨a,ys,e,ha,hr⟩,hv=>⟨a,ys++[.string f.name,.bool f.entry,v],by rw[e]; rfl,ha,YcE l f ys v hr hv⟩
theorem Yca:∀(l:List Fn) (xs:List Value) (b off:Nat),JZ w S l xs->(∀i u,xs[i]? =some u->w.cell? ⟨b,off+i,none⟩=some u)->funcsAt w S l b off
 |[],_,_,_,_,_=>trivial
 |
  f::l,xs,b,off,⟨v,ys,e,hv,hr⟩,hc=>by
  subst e;exact⟨hc 0 _ rfl,hc 1 _ rfl,⟨v,hc 2 _ rfl,hv⟩,Yca l ys b (off+3) hr (fun i u h=>by rw[Nat.add_assoc,Nat.add_comm 3 i]; exact hc (i+3) u h)⟩
theorem YaV.of_owns {base e:Nat}{v:Value}{l:List Fn}{xs:List Value}(h:w.ownsRow base e 3 v l.length xs)(hf:JZ w S l xs)(hS:∀k,S k->T k)(hv:∀k,v.ownBlock=some k->base<=k->T k):YaV w T v l:=by
 obtain⟨ao,cap,rfl,hne⟩:=YZ h;refine⟨ao,cap,rfl,fun hn=>?_⟩;obtain⟨g,rfl⟩:=hne (fun q=>hn (List.eq_nil_of_length_eq_zero q));obtain⟨_,_,hb,hc⟩:=Yb5 h;exact⟨g,0,rfl,hv g rfl hb,Yca l xs g 0 (Yad l xs hf (fun _ _ _=>rfl) (fun k q _=>hS k q)) hc⟩
theorem YeJ {b:Nat}(hb:∀o,w'.cell? ⟨b,o,none⟩=w.cell? ⟨b,o,none⟩):∀(l:List ByteArray) (off:Nat),YeK w l b off->YeK w' l b off
 |[],_,_=>trivial
 |_::l,off,⟨h0,hr⟩=>⟨(hb _).trans h0,YeJ hb l (off+1) hr⟩
theorem JG.keep {v:Value}{l:List ByteArray}(h:JG w S v l)(hk:∀k,S k->k<w.heap.size->w'.heap[k]? =w.heap[k]?)(hT:∀k,S k->k<w.heap.size->T k):JG w' T v l:=by
 obtain⟨ao,cap,e,hl⟩:=h;refine⟨ao,cap,e,fun hn=>?_⟩;obtain⟨g,o,e2,hS,hat,hcp⟩:=hl hn;have hg:g<w.heap.size:=by
  cases l with
  |nil=>exact absurd rfl hn
  |cons x l=>exact World.block_lt_of_cell? w _ hat.1
 exact⟨g,o,e2,hT g hS hg,YeJ (fun o=>World.cell?_of_block (w:=w) (hk g hS hg)) l o hat,hcp⟩
theorem JG.nil (w:World)(S:Nat->Prop):JG w S (.slice none 0 0) []:=⟨none,0,rfl,fun h=>absurd rfl h⟩
theorem YhL:∀(l:List ByteArray) (b off:Nat),(∀i u,(l.map Value.string)[i]? =some u->w.cell? ⟨b,off+i,none⟩=some u)->YeK w l b off
 |[],_,_,_=>trivial
 |s::l,b,off,hc=>⟨hc 0 _ rfl,YhL l b (off+1) (fun i u h=>by rw[Nat.add_assoc,Nat.add_comm 1 i]; exact hc (i+1) u h)⟩
theorem JG.of_owns {base e:Nat}{v:Value}{l:List ByteArray}(h:w.ownsRow base e 1 v l.length (l.map Value.string))(hv:∀k,v.ownBlock=some k->base<=k->T k):JG w T v l:=by
 obtain⟨ao,cap,rfl,hne⟩:=YZ h;refine⟨ao,cap,rfl,fun hn=>?_⟩;obtain⟨g,rfl⟩:=hne (fun q=>hn (List.eq_nil_of_length_eq_zero q));obtain⟨_,_,hb,hc⟩:=Yb5 h;exact⟨g,0,rfl,hv g rfl hb,YhL l g 0 hc,Yka h⟩
end
def SlTy (P:Program)(t e:TypeId)(size bytes:Nat):Prop:=∃i z,P.underlying t=some (.slice e)/\P.info? e=some i/\i.zero=some z/\i.size=size/\i.bytes=bytes/\z.cells.size=size/\0<size
theorem YdA {P:Program}{t e:TypeId}{size bytes:Nat}{z:Value}(ht:P.underlying t=some (.slice e))(hi:(P.info? e).map (fun i=>(i.zero,i.size,i.bytes))=some (some z,size,bytes))(hz:z.cells.size=size)(h0:0<size):SlTy P t e size bytes:=by
 cases hq:P.info? e with
 |none=>rw[hq] at hi; cases hi
 |
  some i=>
  rw[hq] at hi;simp only[Option.map_some,Option.some.injEq,Prod.mk.injEq] at hi;exact⟨i,z,ht,hq,hi.1,hi.2.1,hi.2.2,hz,h0⟩
theorem YeT {P:Program}(w:World)(base:Nat)(t ty e:TypeId)(i:TypeInfo)(ht:P.underlying t=some (.slice e))(hi:P.info? e=some i)(v:Value)(n c:Nat)(xs:List Value)(hown:w.ownsRow base e i.size v n xs):
 (Builtin.append_ #[t,t] ty #[v,.slice none 0 c]).run P w= .ok v w:=by
 rcases hown.2 with⟨rfl,rfl⟩ | ⟨g,cap,cur,rfl,hbg,hg,hnc,hcm,hcs,htake⟩
 ·simp[Builtin.append_,run_underlying ht,sizeOf,typeInfo,hi,Builtin.lenOf,Builtin.firstCells]
 ·simp[Builtin.append_,run_underlying ht,sizeOf,typeInfo,hi,Builtin.lenOf,Builtin.firstCells,hnc];rfl
theorem Yct {P:Program}{o:Oper}{a:Act}{w:World}{K:Act->World->Prop}{Q:Exit->Act->World->Prop}(s x:Operand)(t:TypeId)
 (ho:o.op= .call { callee:=.builtin .append,args:=#[s,x],argTypes:=#[t,t] })(B:Nat)(e:TypeId)(size bytes:Nat)(hT:SlTy P t e size bytes)
 (v:Value)(n:Nat)(xs:List Value)(hs:a.eval s=v)(hown:w.ownsRow B e size v n xs)
 (ao:Option Addr)(m c:Nat)(news:List Value)(hx:a.eval x= .slice ao m c)(hl:news.length=m*size)(hne:m≠0->∃g o,ao=some ⟨g,o,none⟩/\∀j u,news[j]? =some u->w.cell? ⟨g,o+j,none⟩=some u)
 (h1:∀u∈news,u.oneCell'=true)(h63:n+m<=maxLen)(hbytes:(n+m)*bytes<=140737488355328)(hbase:B<=w.heap.size)
 (h:∀v' w',w'.ownsRow B e size v' (n+m) (xs++news)->w.grownBy w' v.ownBlock->(v'.ownBlock=v.ownBlock\/v'.ownBlock=some w.heap.size)->K (a.put o.dst v') w'):o.wp P a w K Q:=by
 obtain⟨i,z,ht,hi,hz,rfl,rfl,hzs,h0⟩:=hT;cases ao with
 |
  some ad=>
  have hnews:∀j u,news[j]? =some u->w.cell? (ad.add j)=some u:=by
   intro j u hj;have hm:m≠0:=by
    rintro rfl;rw[Nat.zero_mul] at hl;rw[List.eq_nil_of_length_eq_zero hl] at hj;cases hj
   obtain⟨g,o,e1,hc⟩:=hne hm;cases e1;have hadd:(⟨g,o,none⟩:Addr).add j=⟨g,o+j,none⟩:=by unfold Addr.add; split<;>simp_all
   rw[hadd];exact hc j u hj
  obtain⟨v',w',hr,h2,h3,_,h5⟩:=run_append_own_at (P:=P) w B t o.type e i z _ _ ht hi hz rfl rfl hzs h0 v n xs hown ad m c news hl hnews h1 h63 hbytes hbase;unfold Oper.wp execOp;simp only[ho,resolve,invoke,builtin,Sem.run_bind,Sem.run_pure,Result.andThen_ok,List.map_toArray,List.map_cons,List.map_nil,hs,hx,hr];exact h v' w' h2 h3 h5
 |
  none=>
  have hm:m=0:=Classical.byContradiction fun q=>by obtain⟨g,o,e1,_⟩:=hne q; cases e1
  subst hm;have hn:news=[]:=List.eq_nil_of_length_eq_zero (by rw[hl,Nat.zero_mul]);subst hn;unfold Oper.wp execOp;simp only[ho,resolve,invoke,builtin,Sem.run_bind,Sem.run_pure,Result.andThen_ok,List.map_toArray,List.map_cons,List.map_nil,hs,hx,YeT w B t o.type e i ht hi v n c xs hown];exact h v w (by simpa using hown) ⟨rfl,rfl,rfl,Nat.le_refl _,fun _ _ _=>rfl⟩ (.inl rfl)
def OwnR (w:World)(B:Nat)(e:TypeId)(size:Nat)(v:Value)(n:Nat)(F:World->(Nat->Prop)->List Value->Prop):Prop:=
 ∃xs,w.ownsRow B e size v n xs/\F w (fun k=>B<=k/\v.ownBlock≠some k) xs
def Ybj (F:World->(Nat->Prop)->List Value->Prop):Prop:=
 ∀(w w':World) (S T:Nat->Prop) (xs:List Value),F w S xs->(∀k,S k->k<w.heap.size->w'.heap[k]? =w.heap[k]?)->(∀k,S k->k<w.heap.size->T k)->F w' T xs
theorem OwnR.nil {w:World}{B:Nat}{e:TypeId}{size:Nat}{F:World->(Nat->Prop)->List Value->Prop}(h:∀S,F w S []):OwnR w B e size (.slice none 0 0) 0 F:=⟨[],World.ownsRow_nil w B e size,h _⟩
theorem OwnR.keep {w w':World}{B:Nat}{e:TypeId}{size:Nat}{v:Value}{n:Nat}{F:World->(Nat->Prop)->List Value->Prop}{S:Nat->Prop}(h:OwnR w B e size v n F)(kF:Ybj F)(hk:Keep S w w')(hS:∀k,S k->k<B):OwnR w' B e size v n F:=by
 obtain⟨xs,ho,hf⟩:=h;have hlt:=ho.lt;refine⟨xs,hk.owns ho (fun k e1 q=>?_),kF w w' _ _ xs hf (fun k hk1 hk2=>hk.block k hk2 (fun q=>?_)) (fun k hk1 _=>hk1)⟩
 ·have:=(hlt k e1).1; have:=hS k q; omega
 ·have:=hk1.1; have:=hS k q; omega
theorem OwnR.below {w w':World}{B:Nat}{e:TypeId}{size:Nat}{v:Value}{n:Nat}{F:World->(Nat->Prop)->List Value->Prop}(h:OwnR w B e size v n F)(kF:Ybj F)(hb:Below w.heap.size w w'):OwnR w' B e size v n F:=h.keep kF (Keep.of_below (S:=fun _=>False) hb) (fun _ q=>q.elim)
theorem OwnR.own_lt {w:World}{B:Nat}{e:TypeId}{size:Nat}{v:Value}{n:Nat}{F:World->(Nat->Prop)->List Value->Prop}(h:OwnR w B e size v n F):∀k,v.ownBlock=some k->B<=k/\k<w.heap.size:=by obtain⟨xs,ho,_⟩:=h; exact ho.lt
theorem YlP {P:Program}{o:Oper}{a:Act}{w:World}{K:Act->World->Prop}{Q:Exit->Act->World->Prop}{F G H:World->(Nat->Prop)->List Value->Prop}(s x:Operand)(t:TypeId)
 (ho:o.op= .call { callee:=.builtin .append,args:=#[s,x],argTypes:=#[t,t] })(B:Nat)(e:TypeId)(size bytes:Nat)(hT:SlTy P t e size bytes)
 (v:Value)(n:Nat)(hs:a.eval s=v)(hR:OwnR w B e size v n F)(kF:Ybj F)(kG:Ybj G)(hFG:∀w S xs ys,F w S xs->G w S ys->H w S (xs++ys))
 (ao:Option Addr)(m c:Nat)(news:List Value)(hx:a.eval x= .slice ao m c)(hG:G w (fun k=>B<=k/\v.ownBlock≠some k) news)(hl:news.length=m*size)
 (hne:m≠0->∃g o,ao=some ⟨g,o,none⟩/\∀j u,news[j]? =some u->w.cell? ⟨g,o+j,none⟩=some u)
 (h1:∀u∈news,u.oneCell'=true)(h63:n+m<=100000000000)(hb:bytes<=1000)(hbase:B<=w.heap.size)
 (h:∀v' w',OwnR w' B e size v' (n+m) H->Keep (fun k=>v.ownBlock=some k) w w'->(v'.ownBlock=v.ownBlock\/v'.ownBlock=some w.heap.size)->K (a.put o.dst v') w'):o.wp P a w K Q:=by
 obtain⟨xs,hown,hf⟩:=hR;have hby:(n+m)*bytes<=140737488355328:=by
  have:=Nat.mul_le_mul h63 hb;omega
 refine Yct s x t ho B e size bytes hT v n xs hs hown ao m c news hx hl hne h1 (by unfold maxLen; omega) hby hbase (fun v' w' ho' hg hat=>?_);have hK:Keep (fun k=>v.ownBlock=some k) w w':=Keep.of_grown hg;have hblk:∀k,(B<=k/\v.ownBlock≠some k)->k<w.heap.size->w'.heap[k]? =w.heap[k]?:=fun k q hk=>hK.block k hk q.2;have hnew:∀k,(B<=k/\v.ownBlock≠some k)->k<w.heap.size->(B<=k/\v'.ownBlock≠some k):=fun k q hk=>⟨q.1,fun e1=>by
  rcases hat with e2 | e2
  ·exact q.2 (e2.symm.trans e1)
  ·rw[e2] at e1; cases e1; omega⟩
 exact h v' w' ⟨xs++news,ho',hFG _ _ _ _ (kF w w' _ _ xs hf hblk hnew) (kG w w' _ _ news hG hblk hnew)⟩ hK hat
theorem Jg {P:Program}{ops:Array Oper}{rest:List Oper}{o:Oper}{a:Act}{w:World}{Q:Exit->Act->World->Prop}{F G H:World->(Nat->Prop)->List Value->Prop}(hgd:o.guard=none)(s x:Operand)(t:TypeId)
 (ho:o.op= .call { callee:=.builtin .append,args:=#[s,x],argTypes:=#[t,t] })(B:Nat)(e:TypeId)(size bytes:Nat)(hT:SlTy P t e size bytes)
 (v:Value)(n:Nat)(hs:a.eval s=v)(hR:OwnR w B e size v n F)(kF:Ybj F)(kG:Ybj G)(hFG:∀w S xs ys,F w S xs->G w S ys->H w S (xs++ys))
 (ao:Option Addr)(m c:Nat)(news:List Value)(hx:a.eval x= .slice ao m c)(hG:G w (fun k=>B<=k/\v.ownBlock≠some k) news)(hl:news.length=m*size)
 (hne:m≠0->∃g o,ao=some ⟨g,o,none⟩/\∀j u,news[j]? =some u->w.cell? ⟨g,o+j,none⟩=some u)
 (h1:∀u∈news,u.oneCell'=true)(h63:n+m<=100000000000)(hb:bytes<=1000)(hbase:B<=w.heap.size)
 (h:∀v' w',OwnR w' B e size v' (n+m) H->Keep (fun k=>v.ownBlock=some k) w w'->(v'.ownBlock=v.ownBlock\/v'.ownBlock=some w.heap.size)->wpList P ops Q rest (a.put o.dst v') w'):wpList P ops Q (o::rest) a w:=
 wpList_plain hgd fun _ hK=>YlP s x t ho B e size bytes hT v n hs hR kF kG hFG ao m c news hx hG hl hne h1 h63 hb hbase fun v' w' a b c=>hK _ _ (h v' w' a b c)
theorem YbY {P:Program}{ops:Array Oper}{o:Oper}{a:Act}{w:World}{K:Act->World->Prop}{Q:Exit->Act->World->Prop}{E:Prop}{F G H:World->(Nat->Prop)->List Value->Prop}(hgd:o.guard=none)(s x:Operand)(t:TypeId)
 (ho:o.op= .call { callee:=.builtin .append,args:=#[s,x],argTypes:=#[t,t] })(B:Nat)(e:TypeId)(size bytes:Nat)(hT:SlTy P t e size bytes)
 (v:Value)(n:Nat)(hs:a.eval s=v)(hR:OwnR w B e size v n F)(kF:Ybj F)(kG:Ybj G)(hFG:∀w S xs ys,F w S xs->G w S ys->H w S (xs++ys))
 (ao:Option Addr)(m c:Nat)(news:List Value)(hx:a.eval x= .slice ao m c)(hG:G w (fun k=>B<=k/\v.ownBlock≠some k) news)(hl:news.length=m*size)
 (hne:m≠0->∃g o,ao=some ⟨g,o,none⟩/\∀j u,news[j]? =some u->w.cell? ⟨g,o+j,none⟩=some u)
 (h1:∀u∈news,u.oneCell'=true)(h63:n+m<=100000000000)(hb:bytes<=1000)(hbase:B<=w.heap.size)
 (h:∀v' w',OwnR w' B e size v' (n+m) H->Keep (fun k=>v.ownBlock=some k) w w'->(v'.ownBlock=v.ownBlock\/v'.ownBlock=some w.heap.size)->K (a.put o.dst v') w'):
 if Region.wanted o (yielded ops a.tmps)=true then Oper.wp P o a w K Q else E:=by
 have hw:Region.wanted o (yielded ops a.tmps)=true:=by simp[Region.wanted,hgd]
 rw[if_pos hw];exact YlP s x t ho B e size bytes hT v n hs hR kF kG hFG ao m c news hx hG hl hne h1 h63 hb hbase h
def tsF (l:Ts)(w:World)(S:Nat->Prop)(xs:List Value):Prop:=l.flat w S xs
theorem Yi (l:Ts):Ybj (tsF l):=fun _ _ _ _ xs h hk hT=>Ts.flat_keep l xs h hk hT
theorem YbQ (a b:Ts)(w:World)(S:Nat->Prop)(xs ys:List Value)(h:tsF a w S xs)(k:tsF b w S ys):tsF (a.app b) w S (xs++ys):=Ts.flat_app a b xs ys h k
theorem Ts.at_flat {w:World}{S:Nat->Prop}:∀(l:Ts) (b off:Nat),l.at w S b off->∃xs,l.flat w S xs/\∀j u,xs[j]? =some u->w.cell? ⟨b,off+j,none⟩=some u
 |.nil,_,_,_=>⟨[],rfl,fun j u h=>by cases h⟩
 |
  .cons k t kids rest,b,off,⟨h0,h1,⟨ao,cap,h2,hkids⟩,hrest⟩=>by
  obtain⟨ys,hf,hc⟩:=Ts.at_flat rest b (off+3) hrest;refine⟨.int .i64 k::.string t::.slice ao kids.len cap::ys,⟨_,ys,rfl,⟨ao,cap,rfl,hkids⟩,hf⟩,fun j u h=>?_⟩;match j,h with
  |0,h=>cases h; exact h0
  |1,h=>cases h; exact h1
  |2,h=>cases h; exact h2
  |
   j+3,h=>
   have:=hc j u h;rw[Nat.add_assoc,Nat.add_comm 3 j] at this;exact this
theorem TsV.news {w:World}{S:Nat->Prop}{ao:Option Addr}{n c:Nat}{l:Ts}(h:TsV w S (.slice ao n c) l):n=l.len/\∃xs,l.flat w S xs/\xs.length=n*3/\(∀u∈xs,u.oneCell'=true)/\(n≠0->∃g o,ao=some ⟨g,o,none⟩/\∀j u,xs[j]? =some u->w.cell? ⟨g,o+j,none⟩=some u):=by
 obtain⟨ao',cap,e,hl⟩:=h;cases e;refine⟨rfl,?_⟩;by_cases hn:l= .nil
 ·subst hn;exact⟨[],rfl,rfl,by simp,fun q=>absurd rfl q⟩
 ·obtain⟨g,o,rfl,hS,hat,_⟩:=hl hn;obtain⟨xs,hf,hc⟩:=Ts.at_flat l g o hat;exact⟨xs,hf,Ts.flat_len l xs hf,Ts.flat_one l xs hf,fun _=>⟨g,o,rfl,hc⟩⟩
theorem OwnR.tsV {w:World}{B:Nat}{e:TypeId}{v:Value}{l:Ts}(h:OwnR w B e 3 v l.len (tsF l)):TsV w (fun k=>B<=k) v l:=by
 obtain⟨xs,ho,hf⟩:=h;exact TsV.of_owns ho hf (fun k q=>q.1) (fun k _ q=>q)
def Yd3 (l:List (Ts×Ts))(w:World)(S:Nat->Prop)(xs:List Value):Prop:=Yaf w S l xs
theorem Yag (l:List (Ts×Ts)):Ybj (Yd3 l):=fun _ _ _ _ xs h hk hT=>Ya5 l xs h hk hT
theorem Yi5 (l:List (Ts×Ts))(x:Ts×Ts)(w:World)(S:Nat->Prop)(xs ys:List Value)(h:Yd3 l w S xs)(k:Yd3 [x] w S ys):Yd3 (l++[x]) w S (xs++ys):=by
 obtain⟨v,u,zs,e,hv,hu,hz⟩:=k;rw[show zs=[] from hz] at e;rw[e];exact Ycy l x xs v u h hv hu
theorem OwnR.testsV {w:World}{B:Nat}{e:TypeId}{v:Value}{l:List (Ts×Ts)}(h:OwnR w B e 2 v l.length (Yd3 l)):Y3 w (fun k=>B<=k) v l:=by
 obtain⟨xs,ho,hf⟩:=h;exact Y3.of_owns ho hf (fun k q=>q.1) (fun k _ q=>q)
def ssF (l:Ss)(w:World)(S:Nat->Prop)(xs:List Value):Prop:=l.flat w S xs
theorem JV (l:Ss):Ybj (ssF l):=fun _ _ _ _ xs h hk hT=>Ss.flat_keep l xs h hk hT
theorem Yp1 (a b:Ss)(w:World)(S:Nat->Prop)(xs ys:List Value)(h:ssF a w S xs)(k:ssF b w S ys):ssF (a.app b) w S (xs++ys):=Ss.flat_app a b xs ys h k
theorem OwnR.ssV {w:World}{B:Nat}{e:TypeId}{v:Value}{l:Ss}(h:OwnR w B e 5 v l.len (ssF l)):SsV w (fun k=>B<=k) v l:=by
 obtain⟨xs,ho,hf⟩:=h;exact SsV.of_owns ho hf (fun k q=>q.1) (fun k _ q=>q)
def stF (l:List ByteArray)(_w:World)(_S:Nat->Prop)(xs:List Value):Prop:=xs=l.map Value.string
theorem Yaj (l:List ByteArray):Ybj (stF l):=fun _ _ _ _ _ h _ _=>h
theorem Ymr (a b:List ByteArray)(w:World)(S:Nat->Prop)(xs ys:List Value)(h:stF a w S xs)(k:stF b w S ys):stF (a++b) w S (xs++ys):=by
 unfold stF at h k⊢; rw[h,k,List.map_append]
theorem OwnR.stV {w:World}{B:Nat}{e:TypeId}{v:Value}{l:List ByteArray}(h:OwnR w B e 1 v l.length (stF l)):JG w (fun k=>B<=k) v l:=by
 obtain⟨xs,ho,hf⟩:=h;rw[show xs=l.map Value.string from hf] at ho;exact JG.of_owns ho (fun k _ q=>q)
end Go.Proofs.YteamjdmhdfjopaaGreatDoor
