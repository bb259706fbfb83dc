/- TopOnce: part 4 of the proof. -/
import Derived.Lib.AppendZerosOnto
import Derived.Lib.Overlaps
import Derived.Test.YtoaehdgokeicoaaGreatDoorZ03
set_option maxRecDepth 100000
set_option maxHeartbeats 30000000
set_option linter.all false
namespace Go.Proofs.YtoaehdgokeicoaaGreatDoor
open K9 Z9 Go.Proofs.Tryz
section
variable{w v u W V U:eI}{n k m i j p b c d g N B K G M:Nat}{x y z X Y Z:eS}{D E F:Int}{A C H I:fE}{l L J T:fY}{r s t R S:fe}{f:ik}{a:Act}{O P Q:List Oper}{kE:Oper}{kG:Array Oper}{kJ:kx}
section
open Go.RowKit
theorem Jx{P:Program}(b:eI)(w:Nat)(x F G d:ik)(size:Nat)(H:P.underlying x=some (.slice d))(j:(P.info? d).map (·.size)=some size)(f g k:Nat)(r:fY)(I:b.ownsRow w d size (fN f g k) g r)(c n J:Nat)(o:fE)(l y:Nat)(a:fY)(K:a.length=Nat.min l n*size)(s:Rd b o a)(L:∀t∈a,t.oneCell'=true)(ae:c*size+a.length<=g*size):
 ∃u,(Builtin.copy_ #[x,F] G #[.slice (some (eJ f (c*size))) n J,.slice o l y]).run P b=.ok (goInt (Nat.min l n)) u/\
  u.ownsRow w d size (fN f g k) g (r.take (c*size)++a++r.drop (c*size+a.length))/\b.grownBy u (some f):=by
 rcases I with⟨hl,h|⟨g2,af,i,p,M,z,A,N,B,O⟩⟩
 ·cases h.1
 simp only[ml,fd,ny,gP,ky] at p;obtain⟨rfl,rfl⟩:=p;have Q:(Builtin.firstCells size (Nat.min l n) (.slice o l y)).run P b=.ok a.toArray b:=by
  cases o with
  |none=>
   have:a=[]:=by
    cases a with
    |nil=>rfl
    |cons ag ah=>obtain⟨_,_,h,_⟩:=s 0 (by simp);cases h
   subst this;rfl
  |some R=>
   simp only[Builtin.firstCells];rw[<-K];by_cases S:a.length=0
   ·obtain rfl:a=[]:=Gc S;have:=DF (P:=P) b R [] (λC t h=>by simp at h);simpa using this
   ·obtain⟨T,U,m,_⟩:=s 0 (by omega);simp only[fd] at m;subst m;exact DF (P:=P) b (eJ T U) a (λC t p=>by obtain⟨V,rfl⟩:=jS.1 p;obtain⟨b',ai,D,W⟩:=s C V;simp only[fd,ny,gP] at D;obtain⟨rfl,rfl⟩:=D;rw[P4];exact W)
 have aj:g*size<=k*size:=qU _ A;have E:=MF P f (c*size) d a 0 i b z (by rw[m5,B];omega) L;rw[m5] at E;have X:(Go.sizeOf d).run P b=.ok size b:=by
  cases v:P.info? d with
  |none=>rw[v] at j;cases j
  |some ak=>rw[v] at j;simp only[qO,fd] at j;simp[sizeOf,typeInfo,v,j]
 refine⟨_, ?_,⟨?_,.inr ⟨f,k,(i.toList.take (c*size)++a++i.toList.drop (c*size+a.length)).toArray,rfl,M,setRow_heap b f i _ d _ z,A,N, ?_, ?_⟩⟩,⟨rfl,rfl,rfl,by simp[World.setRow],λY _ Z=>MG b f Y _ (λe=>Z (by simp[e]))⟩⟩
 ·simp only[Builtin.copy_];simp[Aq H,Builtin.lenOf,X,Q,E]
 ·simp only[fT,ig,jE];omega
 ·simp only[DG,fT,ig,jE,Sd];omega
 ·subst O;have hL:i.toList.length=k*size:=by simpa using B
  generalize i.toList=ad at*;have m:(ad.take (c*size)++a).length=c*size+a.length:=by rw[fT,ig,lK (by omega)]
  rw[Mu,mZ (by rw[m];omega),m,AG,lK (by omega),S5]
theorem mH{P:Program}{rest:List Oper}{p:Exit->Act->eI->Prop}(x:kE.guard=none)(r s:Operand)(l t:ik)(y:kE.op=.call {callee:=.builtin .copy,args:=#[r,s],argTypes:=#[l,t]})(m:Nat)(d:ik)(size:Nat)(z:P.underlying l=some (.slice d))(A:(P.info? d).map (·.size)=some size)(f c n:Nat)(i:fY)(B:w.ownsRow m d size (fN f c n) c i)(of j u:Nat)(C:a.eval r=.slice (some (eJ f (of*size))) j u)(o:fE)(k v:Nat)(D:a.eval s=.slice o k v)(b:fY)(E:b.length=Nat.min k j*size)(F:Rd w o b)(G:∀H∈b,H.oneCell'=true)(I:of*size+b.length<=c*size)(h:∀g,g.ownsRow m d size (fN f c n) c (i.take (of*size)++b++i.drop (of*size+b.length))->w.grownBy g (some f)->wpList P kG p rest (a.put kE.dst (goInt (Nat.min k j))) g):
 wpList P kG p (kE::rest) a w:=by refine ul x λN J=> ?_;obtain⟨g,K,L,M⟩:=Jx (P:=P) w m l t kE.type d size z A f c n i B of j u o k v b E F G I;unfold Oper.wp;simp[execOp,y,resolve,invoke,builtin,C,D,K,Result.andThen];exact J _ _ (h g L M)
theorem vx{P:Program}{rest:List Oper}{y:Exit->Act->eI->Prop}(F:kE.guard=none)(z A:Operand)(o p:ik)(G:kE.op=.call {callee:=.builtin .append,args:=#[z,A],argTypes:=#[o,p]})(r:Nat)(e:ik)(d:TypeInfo)(i:eS)(size bytes:Nat)(B C:IntKind)(H:P.underlying o=some (.slice e))(I:P.underlying p=some (.int C))(J:P.info? e=some d)(K:d.zero=some i)(L:d.size=size)(M:d.bytes=bytes)(n:i.cells.size=size)(N:0<size)(j b f:Nat)(g:fY)(s:w.ownsRow r e size (fN j b f) b g)(k:Nat)(O:a.eval z=fN j b f)(Q:a.eval A=.int B k)(R:0<k)(S:f<b+k)(D:b+k<=maxLen)(T:k*bytes<=281474976710656)(U:(b+k)*bytes<=140737488355328)(V:r<=w.heap.size)(h:∀t u v,b+k<=t->u.length=(b+k)*size->(∀c,c<b*size->u[c]? =g[c]?)->v.ownsRow r e size (fN w (b+k) t) (b+k) u->eF w v->wpList P kG y rest (a.put kE.dst (fN w (b+k) t)) v):
 wpList P kG y (kE::rest) a w:=by
 subst L M;refine ul F λaf W=> ?_;have X:=λc (x:c<b*d.size)=>s.cellAt c x;have l:=s.1;have Y:(Builtin.firstCells d.size b (fN j b f)).run P w.drew=.ok g.toArray w.drew:=by simp only[Builtin.firstCells];rw[<-l];exact DF (P:=P) w.drew (eJ j 0) g (λc ag m=>by have x:=(jS.1 m).1;rw[P4,lH,World.cell?_drew,X c (by omega)];exact m)
 rcases s with⟨_,h|⟨g2,ah,ai,m,aj,hh,ak,al,am,an⟩⟩
 ·cases h.1
 simp only[ml,fd,ny,gP,ky] at m;obtain⟨rfl,rfl⟩:=m;have Z:=Lib.run_append_grow_zeros (P:=P) w o p kE.type e d i B C H I J K (some (eJ j 0)) b f g Y k R N S (by unfold maxLen at D;omega) T (growslice_fits (by omega) U);have E:=grownCap_ge w (b+k) f e;have ad:=grownCap_le_maxLen w (b+k) f e D;unfold Oper.wp;simp[execOp,G,resolve,invoke,builtin,O,Q,Z,Result.andThen];refine W _ _ (h _ (g++(Builtin.zeroCells i.cells k).toList) _ E ?_ (λc x=>by rw[qp (by omega)]) ⟨?_,.inr ⟨w,grownCap w (b+k) f e,_,rfl,V,Hw _ _,E,ad, ?_, ?_⟩⟩ ((eF.drew w).trans oP))
 ·simp[AH,l,n,lI]
 ·simp[AH,l,n,lI]
 ·rw[Array.size_append,Array.size_append,AH,AH,n,DG,l,<-lI,<-lI];congr 1;omega
 ·have ae:(g++(Builtin.zeroCells i.cells k).toList).length=(b+k)*d.size:=by simp[AH,l,n,lI]
  simp only[Array.toList_append,<-iK];exact wH ae
theorem DH(a:gh)(b:Nat):(jl a).drop b=jl (a.drop b):=by simp[jl]
theorem DI(a:gh)(b:Nat):(jl a).take b=jl (a.take b):=by simp[jl]
def pk(w:eI)(bs:gh)(e:Ending)(w':eI):Prop:=∃g c,e=fH (ij #[fN g bs c,eE 0])/\w'.ownsRow w 5 1 (fN g bs c) bs (jl bs)/\eF w w'
def Rg.cut(r:Rg)(a n:Int):gh:=(r.bs.drop (a- r.at_).toNat).take n.toNat
structure jK(rs:List Rg)(m:Nat)(r:Rg)(a n q:Int):Prop where
 is:rs[m]? =some r
 low:r.at_<=a
 pos:1<=n
 iO:n<=1048576
 high:a+n<=r.at_+r.bs.length
 iU:oR r.iU q
 first:∀j (hj:j<m) x,rs[j]? =some x->a<x.at_\/x.at_+x.bs.length<=a
theorem B6(m g:Nat)(i:List Rg)(n:eS)(c b q:Int)(o:Nat)(a:Rg)(f:eI)(h:j' f m g i n)(d:jK i o a c b q):
 Calls prog 77 #[fw g,eE c,eE b,eE q] f (pk f (a.cut c b)):=by
 have w:=mp d.is;have x:=eD (h.each a w);have hcut:(a.cut c b).length=b.toNat:=by have:=d.low;have:=d.high;unfold Rg.cut;rw[ig,jE];omega
 have y:=eD (AB m g i n c b q o a f h d.is d.low d.pos d.high d.iU d.first);have D:=d.pos;have E:=d.iO;have j:=eD hcut;clear h d hcut;go_in;go_wp
 refine y.mono ?_;rintro e p ⟨rfl,k⟩;have r:=eD k;have s:Rd p (some (eJ a.g ((c- a.at_).toNat))) (jl (a.cut c b)):=by have:=(mo (k.own x) (c- a.at_).toNat).take b.toNat;rwa [DH,DI] at this
 have z:=eD (DE (some (eJ a.g ((c- a.at_).toNat))) b.toNat (a.c- (c- a.at_).toNat) (jl (a.cut c b)) p (λh=>by cases h) (by rw[ju,j,qP]) s (pj _) (by omega));clear k s;go_wp21
 refine z.mono ?_;rintro e A ⟨F,rfl,l,t⟩;have B:0<b.toNat:=by omega
 obtain⟨u,v,rfl,_⟩:=jI l B;have C:Hid (pk f (a.cut c b) (fH (ij #[fN u b.toNat v,eE 0])) A):=eD ⟨u,v,by rw[j],by rw[j];exact fq l r.size,r.trans t⟩;clear l t;go_wp2;go_ret2
 exact C
theorem Jy(a:List Rg)(b:Nat)(f c:Rg)(g:a[b]? =some f)(j:c.eL=f.eL):iY (a.set b c)=iY a:=by
 have h:(a.set b c).map Rg.eL=a.map Rg.eL:=by
  rw[qQ,j];apply Dv;intro k;by_cases i:b=k
  ·subst i;have:=(jS.1 g).1;rw[xX (by simpa using this),vy,g];rfl
  ·rw[ur i]
 have e:∀d:List Rg,iY d=(d.map Rg.eL).flatten:=λd=>by simp[iY,fO,List.flatMap]
 rw[e,e,h]
theorem j'.put{w:eI}{B p:Nat}{rs:List Rg}{v:eS}(h:j' w B p rs v){m:Nat}{r:Rg}(b:rs[m]? =some r){f:gh}(l:f.length=r.bs.length)(g:u.ownsRow B 5 1 (fN r.g r.bs r.c) r.bs (jl f))(i:w.grownBy u (some r.g)):j' u B p (rs.set m {r with bs:=f}) v/\CH B jr [] w u:=by
 have s:=mp b;have t:=(jS.1 b).1;have D:rs[m]=r:=(jS.1 b).2;have n:=h.each r s;have E:CH B jr [] w u:=CH.grown (v:=fN r.g r.bs r.c) i n (by simp[jr]);have F:∀{e:ik} {size x:Nat} {y:eS} {z:fY},w.ownsRow B e size y x z->e≠5->u.ownsRow B e size y x z:=λg G=>g.kept i ((kQ g n G).imp id (λh=>λe=>h e));refine⟨⟨h.eH.grown i (λe=> ?_),h.low, ?_,λA c=> ?_, ?_, ?_,λA c=> ?_⟩,E⟩
 ·simp only[fd] at e;subst e;rcases n.2 with⟨j,_⟩|⟨I,J,K,j,_,H,_⟩
  ·cases j
  ·simp only[ml,fd,ny,gP,ky] at j;obtain⟨rfl,rfl⟩:=j;have a:=h.eH;unfold eQ at a;rw[H] at a;injection a with a
   injection a with _ a
   exact absurd a (by decide)
 ·rw[Jy rs m r _ b (by simp[Rg.eL,l]),nZ];exact F h.row (by decide)
 ·obtain⟨d,k,rfl⟩:=gN c;by_cases o:m=d
  ·subst o;rw[Ax];simpa[l] using g
  ·rw[xY o];have C:d<rs.length:=by simpa using k
   refine(h.each rs[d] (eU C)).kept i (.inr λe=>o ?_);simp only[Value.ownBlock,fd] at e;refine F7 h.pX (by simpa using t) (by simpa using C) ?_;simp[D,e]
 ·rw[qQ];have:(rs.map Rg.g).set m r.g=rs.map Rg.g:=by
   apply Dv;intro d;by_cases k:m=d
   ·subst k;rw[xX (by simpa using t),vy,b];rfl
   ·rw[ur k]
  rw[show({r with bs:=f}:Rg).g=r.g from rfl,this];exact h.pX
 ·rw[nZ];exact h.iO
 ·rcases qR c with c|rfl
  ·exact h.vq A c
  ·have:=h.vq r s;simpa[l] using this
theorem rC{e:ik}{size:Nat}(h:w.ownsRow n e size (fN j m i) m l){k:Nat}(b:k<=m):w.ownsRow n e size (fN j k i) k (l.take (k*size)):=by
 have c:k*size<=m*size:=qU _ b;rcases h with⟨s,h|⟨t,u,d,a,f,g,v,o,p,r⟩⟩
 ·cases h.1
 ·simp only[ml,fd,ny,gP,ky] at a;obtain⟨rfl,rfl⟩:=a;refine⟨by rw[ig,lK (by omega)],.inr ⟨j,i,d,rfl,f,g,by omega,o,p, ?_⟩⟩;rw[<-r,AG,lK c]
theorem MH{e:ik}{size:Nat}(h:w.ownsRow n e size (fN j m i) m l){k:Nat}(f:m<=k)(b:k<=i):∃g,w.ownsRow n e size (fN j k i) k (l++g):=by
 have o:m*size<=k*size:=qU _ f;have x:k*size<=i*size:=qU _ b;rcases h with⟨p,h|⟨y,z,a,c,r,s,A,t,d,u⟩⟩
 ·cases h.1
 ·simp only[ml,fd,ny,gP,ky] at c;obtain⟨rfl,rfl⟩:=c;refine⟨(a.toList.take (k*size)).drop (m*size), ?_,.inr ⟨j,i,a,rfl,r,s,b,t,d, ?_⟩⟩
  ·have v:a.toList.length=i*size:=by simpa using d
   rw[fT,jE,ig,v,p,lK (by omega)];omega
  ·have:l=(a.toList.take (k*size)).take (m*size):=by rw[AG,lK o];exact u.symm
   rw[this,oa]
theorem yc(a:List Rg)(k:Nat):(iY a).drop (k*4)=iY (a.drop k):=qr jO a k
theorem ye(a:List Rg)(k:Nat):(iY a).take (k*4)=iY (a.take k):=qt jO a k
theorem Qx(a b c:fY)(f k:Nat)(i:a.length=f*4)(l:b.length=(f+1)*4)(r:k<f)(g:c.length=4)(m:∀d,d<k*4->b[d]? =(a.take (k*4))[d]?):
 (b.take (k*4)++(c++b.drop (k*4+c.length))).take ((k+1)*4)++(a.drop (k*4)++(b.take (k*4)++(c++b.drop (k*4+c.length))).drop ((k+1)*4+(a.length- k*4)))=a.take (k*4)++(c++a.drop (k*4)):=by
 have n:b.take (k*4)=a.take (k*4):=by
  apply Dv;intro d;rw[Qy];split
  ·next h=>exact m d h
  ·next h=>rw[Qy,fG h]
 have j:(a.take (k*4)).length=k*4:=by rw[ig,i];omega
 rw[n,g];have o:(a.take (k*4)++(c++b.drop (k*4+4))).take ((k+1)*4)=a.take (k*4)++c:=by rw[<-iK];exact wH (by rw[fT,j,g];omega)
 have p:(a.take (k*4)++(c++b.drop (k*4+4))).drop ((k+1)*4+(a.length- k*4))=[]:=tC (by simp only[fT,jE,j,g,i,l];omega);rw[o,p,ox,iK]
theorem Qz(a b c:fY)(g k:Nat)(d:a.length=g*4)(i:b.length=4)(n:k<g)(j:c.length=4):
 ((a++b).take ((k+1)*4)++(a.drop (k*4)++(a++b).drop ((k+1)*4+(a.length- k*4)))).take (k*4)++(c++((a++b).take ((k+1)*4)++(a.drop (k*4)++(a++b).drop ((k+1)*4+(a.length- k*4)))).drop (k*4+c.length))=a.take (k*4)++(c++a.drop (k*4)):=by
 have l:(a++b).drop ((k+1)*4+(a.length- k*4))=[]:=tC (by simp only[fT,d,i];omega);have m:(a++b).take ((k+1)*4)=a.take ((k+1)*4):=MI (by rw[d];omega);have f:(a.take ((k+1)*4)).length=(k+1)*4:=by rw[ig,d];omega
 rw[l,m,ox,j,MI (by rw[f];omega),AG,lK (by omega),QA (by rw[f];omega),tC (by rw[f];omega),j6]
theorem QB:(prog.info? 157).map (λa=>(a.zero,a.size,a.bytes))=some (some (.agg #[.int .i64 0,.int .i64 0,.int .i64 0,.slice none 0 0]),4,48):=by kernel_rfl
theorem Ge(f:Nat)(w:eS)(a:List Rg)(k:Nat)(r:Rg)(m:Nat)(c:eI)(af:c.ownsRow f 157 4 w a (iY a))(hk:k<=a.length)(hb:eQ c m 157 r.eL.toArray)(ag:w.ownBlock≠some m)(hn:a.length<=4096)(M:f<=c.heap.size):
 Calls prog 184 #[w,eE k,fN m 1 1] c λe g=>
  ∃n,e=fH n/\g.ownsRow f 157 4 n (a.length+1) (iY (a.take k++r::a.drop k))/\fi (λq=>w.ownBlock=some q) c g:=by
 obtain⟨N,o,O,p,P⟩:=info_parts QB;have i:=eD af;have z:=eD hb;have H:=eD (vv r);have ah:Hid (∀n g,g.ownsRow f 157 4 n (a.length+1) (iY (a.take k++r::a.drop k))->fi (λq=>w.ownBlock=some q) c g->∃v2,Ending.returned n=fH v2/\g.ownsRow f 157 4 v2 (a.length+1) (iY (a.take k++r::a.drop k))/\fi (λq=>w.ownBlock=some q) c g):=eD (λn g s j=>⟨n,rfl,s,j⟩);clear af hb;obtain⟨I,l,Q⟩:=eR i;have R:I=none\/∃b,I=some (eJ b 0):=by
  rcases i.2 with⟨h,_⟩|⟨b,A,x,h,_⟩
  ·rw[Q] at h;injection h with h;exact .inl h
  ·rw[Q] at h;injection h with h;exact .inr ⟨b,h⟩
 subst Q;by_cases ai:k=a.length
 ·have HL:Hid (iY (a.take k++r::a.drop k)=iY a++r.eL):=eD (by rw[ai,iT,Jr,ov];simp[fO]);rw[HL] at ah ⊢;clear HL;subst ai;have T:I=none->a.length=0:=λh=>by
   rcases i.2 with⟨_,j⟩|⟨b,A,x,j,_⟩
   ·exact j
   ·rw[h] at j;cases j
  rcases R with rfl|⟨b,rfl⟩
  ·have h0:=T rfl;have ar:l=0:=by
    rcases i.2 with⟨h,_⟩|⟨b,A,x,h,_⟩
    ·injection h
    ·cases h
   subst ar;obtain rfl:a=[]:=Gc h0;simp only[jH] at i ah hn ⊢;clear h0 T;go_in;go_wp2_with (at_builtin;go_loud(refine fB rfl _ _ 150 rfl f 157 N _ 4 48 underlying150 o O p P rfl (by omega) (eW) 0 (iY []) rfl i (some (eJ m 0)) 1 r.eL 1 rfl rfl (eQ.rd z) H ?d3 ?d4 ?d5 ?_))
   case d3=>unfold maxLen;omega
   case d4=>omega
   case d5=>exact M
   intro n g B C _;have U:=eD B;have V:=eD C;clear B C;go_wp
   go_ret;exact⟨n,kj rfl,U,fi.mono (fi.grown V) (λq d=>d.symm)⟩
  ·have W:a.length<=l/\l<=maxLen:=by
    rcases i.2 with⟨h,_⟩|⟨g2,A,x,h,_,_,X,h4,_⟩
    ·cases h
    ·injection h with _ _ h5;subst h5;exact⟨X,h4⟩
   obtain⟨W,au⟩:=W;clear T;go_in;go_wp2_with (at_builtin;go_loud(refine fB rfl _ _ 150 rfl f 157 N _ 4 48 underlying150 o O p P rfl (by omega) (fN b a l) a (iY a) rfl i (some (eJ m 0)) 1 r.eL 1 rfl rfl (eQ.rd z) H (by unfold maxLen;omega) (by omega) M ?_))
   all_goals
    intro n g B C _;have U:=eD B;have V:=eD C;clear B C;go_wp
    go_ret;exact⟨n,kj rfl,U,fi.mono (fi.grown V) (λq d=>d.symm)⟩
 ·have aj:k<a.length:=by omega
  obtain⟨b,rfl⟩:∃b,I=some (eJ b 0):=by
   rcases R with rfl|h
   ·rcases i.2 with⟨_,h⟩|⟨b,A,x,h,_⟩
    ·omega
    ·cases h
   ·exact h
  obtain⟨g2,J,he,aK,aL,W,au⟩:=jI i (by omega);injection he with D _ av
  injection D with D
  injection D with D
  subst av D;have ak:b≠m:=λe=>ag (by rw[e];rfl);clear R ag;by_cases aM:l<a.length+1
  ·go_in;go_wp2_with (at_builtin;go_loud(refine vx rfl _ _ 150 3 rfl f 157 N _ 4 48 .i64 .i64 underlying150 underlying3 o O p P rfl (by omega) b k l _ (rC i hk) (a.length+1- k) rfl ?x1 (by omega) (by omega) (by unfold maxLen;omega) (by omega) (by omega) M ?_))
   case x1=>omega
   intro J E w2 aw K al Y am;have ax:k+(a.length+1- k)=a.length+1:=by omega
   rw[ax] at aw K Y;have HY:=eD Y;have Z:=eD am;have ay:=eD al;clear Y am al;generalize aN:c.heap.size=j at*;go_wp2_with (refine mH rfl (.tmp 43) (.tmp 44) 150 150 rfl f 157 4 underlying150 (by rw[o];simp[p]) j (a.length+1) J E HY k _ _ rfl (some (eJ m 0)) 1 1 rfl r.eL ?x1 (eQ.rd (Z.eH z)) H ?x2 ?_)
   case x1=>rw[jO,show Nat.min 1 (a.length+1- k)=1 from lK (by omega)]
   case x2=>rw[jO];omega
   intro t an g3;have az:=eD an;have aA:Hid (t.ownsRow f 157 4 (fN b a l) a (iY a)):=eD (fi.own (fi.grown g3) (Z.own i) (λq d aB=>by simp only[Value.ownBlock,fd] at d aB;omega))
   have aC:Hid (fi (λq=>Value.ownBlock (fN b a l)=some q) c t):=eD (fi.fg ((fi.grown g3).ext Z));clear an g3;go_wp
   refine mC [0,1,2,3,4,5,6,7] [8] (λg=>∃u:EW t,g=u.w) (by kernel_rfl) (by kernel_rfl) (by decide) (by simp[gj];rfl) (by simp[gj];rfl) ⟨⟨_,eF.drew t⟩,rfl⟩ ?_;repeat(go_big_quiet_step (fail))
   refine eO ?_;go_wp2_with (refine mH rfl (.tmp 50) (.tmp 53) 150 150 rfl f 157 4 underlying150 (by rw[o];simp[p]) j (a.length+1) J _ ((eF.drew t).own az) (k+1) _ _ rfl (some (eJ b (k*4))) _ _ rfl ((iY a).drop (k*4)) ?x1 (mo ((eF.drew t).own aA) (k*4)) ?x3 ?x2 ?_)
   case x1=>rw[jE,pW,show Nat.min (a.length- k) (a.length- k)=a.length- k from Nat.min_self _];omega
   case x2=>rw[jE,pW];omega
   case x3=>exact λu hu=>np a u (qV hu)
   intro w5 y F;rw[Qx (iY a) E r.eL a k (pW a) K aj (jO r) ay,ye,yc] at y;have ad:Hid (w5.ownsRow f 157 4 (fN j (a.length+1) J) (a.length+1) (iY (a.take k++r::a.drop k))):=eD (by rw[ov];exact y);have aD:=eD (fi.trans aC (fi.trans (S':=λq=>q=j) (fi.fg (S:=λq=>q=j) (eF.drew t)) (fi.mono (fi.grown F) (λq d=>by simpa using d)) (λq d=>.inl d)) (λq d=>.inr (by omega)));clear y F;go_wp
   go_ret;exact⟨_,kj rfl,ad,aD⟩
  ·obtain⟨E,kn⟩:=MH i (k:=a.length+1) (by omega) (by omega);have HM:=eD kn;clear kn;have G:=z.out;have aO:∀ae lb cb,(callFunc 264 #[fN m 1 1,.slice (some (eJ b ae)) lb cb]).run prog c=.ok (.value (fz false)) c:=λae lb cb=>by
    obtain⟨L,aE,aF⟩:∃L,L≠0/\c.shape? b=some (157,L):=by
     rcases i.2 with⟨h,_⟩|⟨g2,A,x,h,_,hh,_,_,aP,_⟩
     ·cases h
     ·injection h with s _ X
      injection s with s
      injection s with s
      subst s X;exact⟨x.size,by omega,by simp[World.shape?,hh]⟩
    have aG:c.shape? m=some (157,4):=by unfold eQ at G;simp[World.shape?,G,Rg.eL]
    rw[run_callFunc_extern func264 (by kernel_rfl) (by kernel_rfl) (by kernel_rfl) (e:=Extern.SlicesOverlaps.overlaps #[150,150] #[4]) (by kernel_rfl),
     Lib.run_overlaps_apart c 150 4 157 underlying150 4 (λc=>by simp[sizeOf,typeInfo,o,p]) ⟨m,0,none⟩ ⟨b,ae,none⟩ 1 1 lb cb (λe=>ak e.symm) 157 157 4 L aG aF aE (G.frozen 0) (G.frozen 4)]
    rfl
   clear G;go_in;go_wp2;have v:=pW a;have K:E.length=4:=by have:=HM.1;rw[fT,v] at this;omega
   have ao:Hid (Rd c.drew (some (eJ b (k*4))) ((iY a).drop (k*4))):=eD (by have:=(mo ((eF.drew c).own HM) (k*4)).take ((iY a).drop (k*4)).length;rwa [QA (by rw[v];omega),wH rfl] at this)
   refine mC [0,1,2,3,4,5,6,7] [8] (λg=>∃u:EW c,g=u.w) (by kernel_rfl) (by kernel_rfl) (by decide) (by simp[gj];rfl) (by simp[gj];rfl) ⟨⟨_,eF.drew c⟩,rfl⟩ ?_;repeat(go_big_quiet_step (fail))
   refine eO ?_;go_wp2_with (refine mH rfl (.tmp 73) (.tmp 76) 150 150 rfl f 157 4 underlying150 (by rw[o];simp[p]) b (a.length+1) l _ ((eF.drew c).own HM) (k+1) _ _ rfl (some (eJ b (k*4))) _ _ rfl ((iY a).drop (k*4)) ?x1 ao ?x3 ?x2 ?_)
   case x1=>rw[jE,v,show Nat.min (a.length+1- k) (a.length- k)=a.length- k from Nat.min_eq_right (by omega)];omega
   case x2=>rw[jE,v];omega
   case x3=>exact λu hu=>np a u (qV hu)
   intro w5 y F;have ad:=eD y;have ap:=eD (fi.trans (S':=λq=>q=b) (fi.fg (S:=λq=>q=b) (eF.drew c)) (fi.mono (fi.grown F) (λq d=>by simpa using d)) (λq d=>.inl d));have aH:=eD (ap.eH z (λe=>ak e.symm));clear y F ao;go_wp2_with (refine mH rfl (.tmp 80) (.tmp 81) 150 150 rfl f 157 4 underlying150 (by rw[o];simp[p]) b (a.length+1) l _ ad k _ _ rfl (some (eJ m 0)) 1 1 rfl r.eL ?y1 (eQ.rd aH) H ?y2 ?_)
   case y1=>rw[jO,show Nat.min 1 (a.length+1- k)=1 from lK (by omega)]
   case y2=>rw[jO];omega
   intro w6 aq g6;have aI:Hid (w6.ownsRow f 157 4 (fN b (a.length+1) l) (a.length+1) (iY (a.take k++r::a.drop k))):=eD (by have e:=Qz (iY a) E r.eL a k v K aj (jO r);rw[v] at e;rw[ov,<-ye,show iY (r::a.drop k)=r.eL++iY (a.drop k) from lq _ _,<-yc,<-e];simpa only[jE,iK,v] using aq)
   have aJ:Hid (fi (λq=>Value.ownBlock (fN b a l)=some q) c w6):=eD (fi.mono (fi.trans (S':=λq=>q=b) ap (fi.mono (fi.grown g6) (λq d=>by simpa using d)) (λq d=>.inl d)) (λq d=>by subst d;rfl));clear aq g6;go_wp
   go_ret;exact⟨_,kj rfl,aI,aJ⟩
def pm(w:eI)(B p:Nat)(rs:List Rg)(v:eS)(e:Ending)(w':eI):Prop:=e=fH (eE 0)/\j' w' B p rs v/\CH B jr [] w w'
def Rg.put(r:Rg)(a:Int)(xs:gh):Rg:={r with bs:=r.bs.take (a- r.at_).toNat++xs++r.bs.drop ((a- r.at_).toNat+xs.length)}
theorem Ic(i j:Nat)(k:List Rg)(l:eS)(c q:Int)(o:fE)(f s:Nat)(d:gh)(m:Nat)(a:Rg)(g:eI)(h:j' g i j k l)(b:jK k m a c f q)(t:d.length=f)(u:Rd g o (jl d)):
 Calls prog 266 #[fw j,eE c,.slice o f s,eE q] g (pm g i j (k.set m (a.put c d)) l):=by
 have z:=mp b.is;have A:=eD h;have I:=b.low;have J:=b.pos;have K:=b.iO;have L:=b.high;have B:=eD (AB i j k l c f q m a g h b.is b.low b.pos b.high b.iU b.first);have C:=eD b.is;have D:=eD u;have p:=eD t;have E:=eD (h.each a z);clear h b u t;go_in;go_wp
 refine B.mono ?_;rintro e M ⟨rfl,v⟩;have n:=eD v;clear v;go_wp2_with (refine mH rfl (.tmp 28) (.tmp 29) 61 61 rfl i 5 1 underlying61 (by kernel_rfl) a.g a.bs a.c (jl a.bs) (n.own E) (c- a.at_).toNat (f:Int).toNat (a.c- (c- a.at_).toNat) (by simp;rfl) o f s rfl (jl d) ?x1 (n.rd D) (pj _) ?x2 ?_)
 case x1=>rw[ju,p,uv];simp
 case x2=>rw[ju,p];omega
 intro F r w;have G:Hid ((a.bs.take (c- a.at_).toNat++d++a.bs.drop ((c- a.at_).toNat+d.length)).length=a.bs.length):=eD (by simp only[fT,ig,jE,p.out];omega)
 rw[DI,ju,DH,<-tF,<-tF,<-iK] at r;obtain⟨x,y⟩:=(A.ext n).put C G r w;have H:Hid (pm g i j (k.set m (a.put c d)) l (fH (eE 0)) F):=eD ⟨rfl,x,(CH.fg n).fk y⟩;clear r w x y;go_wp
 go_ret;exact H
theorem Jz(g d:Nat)(f:List Rg)(i:eS)(a:Int)(j:Nat)(b:Rg)(c:eI)(h:j' c g d f i)(k:jK f j b a 8 4):
 Calls prog 283 #[fw d,eE a] c (pk c (b.cut a 8)):=by
 have p:=eD (B6 g d f i a 8 4 j b c h k);clear h k;go_in;go_wp
 refine p.mono ?_;rintro e r ⟨l,m,rfl,n,o⟩;have s:Hid (pk c (b.cut a 8) (fH (ij #[fN l (b.cut a 8).length m,eE 0])) r):=eD ⟨l,m,rfl,n,o⟩;clear n o;generalize(b.cut a 8).length=t at*;go_wp2;go_ret2
 exact s
theorem MJ(i f:Nat)(g:List Rg)(j:eS)(a b:Int)(k:Nat)(c:Rg)(d:eI)(h:j' d i f g j)(l:jK g k c a b 1):
 Calls prog 367 #[fw f,eE a,eE b] d (pk d (c.cut a b)):=by
 have r:=eD (B6 i f g j a b 1 k c d h l);clear h l;go_in;go_wp
 refine r.mono ?_;rintro e s ⟨m,n,rfl,o,p⟩;have t:Hid (pk d (c.cut a b) (fH (ij #[fN m (c.cut a b).length n,eE 0])) s):=eD ⟨m,n,rfl,o,p⟩;clear o p;generalize(c.cut a b).length=u at*;go_wp2;go_ret2
 exact t
theorem MK(i f:Nat)(g:List Rg)(j:eS)(a b:Int)(k:Nat)(c:Rg)(d:eI)(h:j' d i f g j)(l:jK g k c a b 0):
 Calls prog 49 #[fw f,eE a,eE b] d (pk d (c.cut a b)):=by
 have r:=eD (B6 i f g j a b 0 k c d h l);clear h l;go_in;go_wp
 refine r.mono ?_;rintro e s ⟨m,n,rfl,o,p⟩;have t:Hid (pk d (c.cut a b) (fH (ij #[fN m (c.cut a b).length n,eE 0])) s):=eD ⟨m,n,rfl,o,p⟩;clear o p;generalize(c.cut a b).length=u at*;go_wp2;go_ret2
 exact t
theorem JA(g b:Nat)(c:List Rg)(i:eS)(d:Int)(m:fE)(j n:Nat)(f:gh)(k:Nat)(l:Rg)(a:eI)(h:j' a g b c i)(o:jK c k l d j 2)(p:f.length=j)(r:Rd a m (jl f)):
 Calls prog 366 #[fw b,eE d,.slice m j n] a (pm a g b (c.set k (l.put d f)) i):=by
 have u:=eD (Ic g b c i d 2 m j n f k l a h o p r);clear h o r p;go_in;go_wp
 refine u.mono ?_;rintro e v ⟨rfl,s,t⟩;have w:Hid (pm a g b (c.set k (l.put d f)) i (fH (eE 0)) v):=eD ⟨rfl,s,t⟩;clear s t;go_wp2;go_ret;exact w
theorem ML(f p:Nat)(b:List Rg)(g:eS)(c:Int)(k:fE)(n l:Nat)(d:gh)(i:Nat)(j:Rg)(a:eI)(h:j' a f p b g)(m:jK b i j c n 0)(o:d.length=n)(r:Rd a k (jl d)):
 Calls prog 186 #[fw p,eE c,.slice k n l] a (pm a f p (b.set i (j.put c d)) g):=by
 have u:=eD (Ic f p b g c 0 k n l d i j a h m o r);clear h m r o;go_in;go_wp
 refine u.mono ?_;rintro e v ⟨rfl,s,t⟩;have w:Hid (pm a f p (b.set i (j.put c d)) g (fH (eE 0)) v):=eD ⟨rfl,s,t⟩;clear s t;go_wp2;go_ret;exact w
def z8:gh:=[0,0,0,0,0,0,0,0]
theorem JB(c f:Nat)(i:Nat)(b:eI)(g:b.ownsRow i 5 1 (fN c 8 f) 8 (jl z8)):
 Calls prog 80 #[fN c 8 f] b λe j=>e=fH (eE 0)/\b=j:=by
 have k:=eD g;clear g;go_in;go_wp
 go_loop [3,8] (λl d=>∃a:Nat,a<=8/\l=.int .u64 0/\d=eE a) (λ_ d=>8- (intOf d).toNat)
 case atStart=>exact⟨0,by omega,rfl,rfl⟩
 case round=>
  obtain⟨a,n,rfl,rfl⟩:=hrel;by_cases m:a<8
  ·have o:b.cell? (eJ c a)=some (.int .u8 0):=by
    rw[k.cellAt a (by omega)];match a,m with
    |0,_|1,_|2,_|3,_|4,_|5,_|6,_|7,_=>rfl
   go_wp
   go_round
   case rel=>exact⟨a+1,by omega,rfl,by go_num⟩
   case measure=>simp[intOf];omega
  ·have:a=8:=by omega
   subst this;go_wp2;go_ret;exact⟨kj rfl,rfl⟩
theorem Gf(b:eI):Calls prog 326 #[eE 0] b (ir b 5 1 8 (jl z8)):=by
 obtain⟨t,u,v,w,x⟩:=info_parts pE;have y:∀f:eI,(Instr.makeSlice 61 (eE 8) (eE 8)).run prog f=.ok (fN f 8 8) (f.alloc (eN (madeCells #[Value.int .u8 0] 8) 5)):=λf=>by have m:=yf (P:=prog) f 61 5 t (.int .u8 0) underlying61 u v .i64 .i64 8 8 (by omega) (by omega) (by rw[x];omega) (by omega);simp only[Int.reduceToNat] at m;rw[m,w,qP];rfl
 go_in;go_wp
 have c:(b.alloc (eN (madeCells #[Value.int .u8 0] 8) 5)).ownsRow b 5 1 (fN b 8 8) 8 (jl z8):=by
  have h:(madeCells #[Value.int .u8 0] 8).toList=jl z8:=by rw[wI];rfl
  rw[<-h];exact AI b _ 8 (fJ _) (by unfold maxLen;omega) (by rw[<-Sd,h];rfl)
 have d:=eF.alloc b (eN (madeCells #[Value.int .u8 0] 8) 5);have g:=eD c;have i:=eD d;clear c d y;generalize b.alloc (eN (madeCells #[Value.int .u8 0] 8) 5)=C at*;generalize n:b.heap.size=j at*;have o:=eD n;clear n;go_loopw [8] (λk wr=>∃a:Nat,a<=8/\k=eE a/\wr.ownsRow j 5 1 (fN j 8 8) 8 (jl z8)/\eF b wr) (λk _=>8- (intOf k).toNat)
 case atStart=>exact⟨0,by omega,rfl,g,i⟩
 case round=>
  obtain⟨a,D,rfl,c,d⟩:=hrel;have g:=eD c;have i:=eD d;by_cases p:a<8
  ·have z:=c.cellAt a (by omega);have E:=c.frozenAt a;have r:(jl z8)[a]? =some (.int .u8 0):=by
    match a,p with
    |0,_|1,_|2,_|3,_|4,_|5,_|6,_|7,_=>rfl
   rw[r] at z;have l:=(c.stored a (.int .u8 0)).1;have s:(jl z8).set a (.int .u8 0)=jl z8:=by
    match a,p with
    |0,_|1,_|2,_|3,_|4,_|5,_|6,_|7,_=>rfl
   rw[s] at l;have A:=eD l;have B:Hid (eF b (wr.setCell (eJ j a) (.int .u8 0))):=eD (eF.of (d.below.setCell (by rw[o];exact fJ _) _));clear c d r l s;go_wp
   go_roundw
   case rel=>exact⟨a+1,by omega,by go_num,A,B⟩
   case measure=>simp[intOf];omega
  ·have:a=8:=by omega
   subst this;clear c d;go_wp
   go_ret;exact⟨_,rfl,by rw[o];exact g,i⟩
theorem DJ(i d:Nat)(f:List Rg)(j:eS)(b:Int)(k:Nat)(g:Rg)(a:eI)(h:j' a i d f j)(l:jK f k g b 8 1)(m:g.cut b 8=z8):
 Calls prog 336 #[fw d,eE b] a λe p=>e=fH (ij #[eE 0,eE 0])/\eF a p:=by
 have c:=MJ i d f j b 8 k g a h l;rw[m] at c;have c:=eD c;clear h l m;go_in;go_wp
 refine c.mono ?_;rintro e r ⟨s,t,rfl,n,o⟩;have u:=eD (JB s t a r n);have v:=eD o;clear n o;simp only[z8,iw,jH,Nat.reduceAdd];go_wp
 refine u.mono ?_;rintro e w ⟨rfl,rfl⟩;go_wp2;go_ret2
 exact⟨kj rfl,v⟩
theorem B9(d a:Nat)(b:List Rg)(f:eS)(c:Int)(g:Nat)(i:Rg)(j:eI)(h:j' j d a b f)(m:jK b g i c 8 2):
 Calls prog 332 #[fw a,eE c,eE 0] j (pm j d a (b.set g (i.put c z8)) f):=by
 have p:=eD h;have r:=eD m;clear h m;go_in;go_wp
 refine(Gf _).mono ?_;rintro e s ⟨z,rfl,k,l⟩;obtain⟨t,u,rfl,_⟩:=jI k (by omega);have v:=eD (JA d a b f c (some (eJ t 0)) 8 u z8 g i s (p.ext l) r rfl (Rd.fC k));have w:=eD l;clear k l;go_wp21
 refine v.mono ?_;rintro e x ⟨rfl,n,o⟩;have y:Hid (pm j d a (b.set g (i.put c z8)) f (fH (eE 0)) x):=eD ⟨rfl,n,(CH.fg w).fk o⟩;clear n o;go_wp2;go_ret;exact y
def iF(n:Nat):gh:=List.replicate n 0
structure uw(rs:List Rg)(a n p:Int):Prop where
 lo:4096<=a
 al:a%64=0
 n1:1<=n
 n2:n<=1048576
 hi:a+jn n<=4294967296
 p0:0<=p
 p1:p<=7
 len:rs.length<4096
 below:∀r∈rs.take (i' a rs),r.at_+r.bs.length<=a
 Se:∀r∈rs.drop (i' a rs),a+jn n<=r.at_
def nz(rs:List Rg)(a p:Int)(n g c:Nat):List Rg:=rs.take (i' a rs)++⟨a,p,g,c,iF n⟩::rs.drop (i' a rs)
def pn:mB:=[152,157]
theorem pn.sub{B:Nat}{w:eI}(h:CH B pn [] w v):CH B jr [] w v:=h.mono (by simp[pn,jr]) (λ_ h=>h)
def B'(w:eI)(B p:Nat)(rs:List Rg)(a iU:Int)(n:Nat)(e:Ending)(w':eI):Prop:=e=fH (eE 0)/\∃g c v',w.heap.size<=g/\j' w' B p (nz rs a iU n g c) v'/\CH B pn [] w w'
theorem Ca(b:Int)(a:List Rg):i' b a<=a.length:=by unfold i';exact(List.takeWhile_prefix _).length_le
theorem Cb{a:Int}:∀{rs:List Rg} {k:Nat} (c:k<i' a rs) (h:k<rs.length),rs[k].at_<a
 |[],k,c,h=>by simp at h
 |r::rs,k,c,h=>by
  by_cases b:r.at_<a
  ·have d:i' a (r::rs)=i' a rs+1:=by unfold i';rw[MN (by simpa using b)];rfl
   cases k with
   |zero=>exact b
   |succ k=>exact Cb (rs:=rs) (by omega) (by simpa using h)
  ·have d:i' a (r::rs)=0:=by unfold i';rw[MM (by simpa using b)];rfl
   omega
theorem Ie{a:Int}:∀{rs:List Rg} (h:i' a rs<rs.length),a<=rs[i' a rs].at_
 |[],h=>by simp at h
 |r::rs,h=>by
  by_cases c:r.at_<a
  ·have b:i' a (r::rs)=i' a rs+1:=by unfold i';rw[MN (by simpa using c)];rfl
   have d:=Ie (a:=a) (rs:=rs) (by rw[b] at h;simpa using h);simp only[b,If];exact d
  ·have b:i' a (r::rs)=0:=by unfold i';rw[MM (by simpa using c)];rfl
   simp only[b,sZ];omega
theorem oS{B:Nat}{e:ik}{size:Nat}{v:eS}{xs:fY}(h:w.ownsRow B e size v n xs)(a:eQ w k f kJ)(c:e≠f):v.ownBlock≠some k:=by
 rcases h.2 with⟨rfl,_⟩|⟨g,i,j,rfl,_,d,_⟩
 ·intro h;cases h
 ·intro b;simp only[Value.ownBlock,fd] at b;subst b;unfold eQ at a;rw[d] at a;injection a with a
  injection a with _ a
  exact c a
theorem j'.Vp{w4:eI}{c:List Rg}{v':eS}{r:Rg}{k:Nat}(h:j' w n m c x)(a:eF w v)(C:v.ownsRow n 5 1 (fN r.g r.bs r.c) r.bs (jl r.bs))(N:w.heap.size<=r.g)(O:k<=c.length)(D:w4.ownsRow n 157 4 v' (c.length+1) (iY (c.take k++r::c.drop k)))(j:fi (λq=>x.ownBlock=some q) v w4)(P:c.length<4096)(E:0<=r.at_/\r.at_+r.bs.length<=4294967296):
 j' (w4.setCell (eJ m 0) v') n m (c.take k++r::c.drop k) v'/\CH n pn [] w (w4.setCell (eJ m 0) v'):=by
 have d:=h.ext a;have s:(c.take k++r::c.drop k).length=c.length+1:=by simp only[fT,iw,ig,jE];omega
 have F:CH n pn [] v w4:=fi.mono j λq f=>⟨(d.row.lt q f).1,by
  rcases d.row.2 with⟨rfl,_⟩|⟨l,Q,G,rfl,_,H,_⟩
  ·cases f
  ·simp only[Value.ownBlock,fd] at f;subst f;exact .inl ⟨G,_,_,H,by simp[pn]⟩⟩
 have g:=j.eH d.eH (oS d.row d.eH (by decide));have o:∀{l:Nat} {i t:Nat} {u:fY},v.ownsRow n 5 1 (fN l i t) i u->(w4.setCell (eJ m 0) v').ownsRow n 5 1 (fN l i t) i u:=λy=>il (j.own y (λq f I=>(kQ y d.row (by decide)).elim (λh=>by cases h) (λh=>h (f.trans I.symm)))) g (by decide) _
 have z:∀b∈c,b.g<w.heap.size:=λb a=>((h.each b a).lt b.g rfl).2;refine⟨⟨?_,h.low, ?_,λb a=> ?_, ?_,by rw[s];omega,λb a=> ?_⟩,((CH.fg a).fk F).fk (CH.set g h.low (by simp[pn]) 0 v')⟩
 ·have:=g.set 0 v';simpa using this
 ·rw[s];exact il D g (by decide) _
 ·rcases gu.1 a with a|a
  ·exact o (d.each b (qT a))
  ·rcases fm.1 a with rfl|a
   ·exact o C
   ·exact o (d.each b (qV a))
 ·rw[iC,hU];have A:=h.pX;rw[<-oa k c,iC,kF] at A;obtain⟨d1,d2,d3⟩:=A;refine kF.2 ⟨d1,ph.2 ⟨λJ=> ?_,d2⟩,λK B L p e=> ?_⟩
  ·obtain⟨b,a,M⟩:=fy.1 J;have:=z b (qV a);omega
  ·rcases fm.1 p with rfl|p
   ·obtain⟨b,a,M⟩:=fy.1 B;have:=z b (qT a);omega
   ·exact d3 K B L p e
 ·rcases gu.1 a with a|a
  ·exact h.vq b (qT a)
  ·rcases fm.1 a with rfl|a
   ·exact E
   ·exact h.vq b (qV a)
theorem sC(s p:Nat)(b:List Rg)(ai:eS)(d n f:Int)(a:Nat)(j:eI)(h:j' j s p b ai)(t:uw b d n f)(L:jn n=a)(hB:s<=j.heap.size):
 Calls prog 109 #[fw p,eE d,eE n,eE f] j (B' j s p b d f a):=by
 obtain⟨i0,aG,aH,aI,aJ⟩:=info_parts pE;have M:=eD h;have f1:=t.lo;have f2:=t.al;have f3:=t.n1;have f4:=t.n2;have f5:d+(a:Int)<=4294967296:=by rw[<-L];exact t.hi
 have f6:=t.p0;have f7:=t.p1;have f8:1<=a/\a<=1048640:=by have:(a:Int)=(n+64- 1)/64*64:=L.symm;omega
 have aK:=t.len;have aj:=eD (λC=>Mv n C (by omega) f4);rw[L] at aj;have hp:=h.eH.ce 0 ai;have a1:=h.eH.frozen 0;obtain⟨ak,N,rfl⟩:=h.slice;have hK:=Ca d b;have al:=eD (λc (X:c<i' d b) (h:c<b.length)=>Cb X h);have aL:=eD (λ(h:i' d b<b.length)=>Ie h);have am:=eD t.below;have an:Hid (∀r∈b.drop (i' d b),d+(a:Int)<=r.at_):=eD (by rw[<-L];exact t.Se);have ao:Hid (∀C,(∃k N y,j.heap.size<=k/\j' C s p (b.take (i' d b)++⟨d,f,k,N,iF a⟩::b.drop (i' d b)) y/\CH s pn [] j C)->B' j s p b d f a (fH (eE 0)) C):=eD (λC h=>⟨rfl,h⟩);generalize B' j s p b d f a=PP at*;generalize i' d b=S at*;clear h t L;go_in;go_wp
 refine(xZ n f _ f3 f4 f6 f7).mono ?_;rintro e u ⟨rfl,rfl⟩;go_wp21
 refine(aj _).mono ?_;rintro e u ⟨rfl,rfl⟩;go_wp2;go_loop [10] (λi=>∃c:Nat,c<=S/\i=eE c) (λi=>S- (intOf i).toNat)
 case atStart=>exact⟨0,eX _,rfl⟩
 case round=>
  obtain⟨c,X,rfl⟩:=hrel;by_cases ap:c<S
  ·have aq:c<b.length:=by omega
   obtain⟨k,c2,Y,_,aM,_,D,E,c3,c4⟩:=M.at aq;injection Y with aN _ Z
   subst aN Z;have aO:=al c ap aq;generalize b[c]=r at*;obtain⟨g,F,rg,G,l⟩:=r;simp only at D E aO;go_wp
   go_round
   case rel=>exact⟨c+1,by omega,by go_num⟩
   case measure=>simp[intOf];omega
  ·obtain rfl:c=S:=by omega
   clear ap X al;obtain⟨k,ad,hA⟩:∃k,(∀B,B<b.length->∃g F rg G,∃l:gh,b[B]? =some ⟨g,F,rg,G,l⟩/\j.cell? (eJ k (B*4))=some (eE g)/\j.cell? (eJ k (B*4+1))=some (eE l.length)/\0<=g/\g+l.length<=4294967296)/\(0<b.length->ak=some (eJ k 0)):=by
    rcases x5 b with h|h
    ·exact⟨0,λB T=>by omega,λz=>by omega⟩
    ·obtain⟨k,c2,Y,_⟩:=M.at h;injection Y with h1
     refine⟨k,λB T=> ?_,λ_=>h1⟩;obtain⟨g2,c3,Z,_,aM,_,D,E,c3,c4⟩:=M.at T;injection Z with z
     rw[h1] at z;injection z with z
     injection z with z
     subst z;have ar:=M.vq _ (eU T);rw[gg T];generalize b[B]=r at*;obtain⟨g,F,rg,G,l⟩:=r;exact⟨g,F,rg,G,l,rfl,D,E,ar.1,ar.2⟩
   have U:∀O:eI,(Instr.makeSlice 61 (eE (a:Nat)) (eE (a:Nat))).run prog O=.ok (fN O a a) (O.alloc (eN (madeCells #[Value.int .u8 0] a) 5)):=λO=>by have hr:=yf (P:=prog) O 61 5 i0 (.int .u8 0) underlying61 aG aH .i64 .i64 a a (by omega) (by omega) (by rw[aJ];omega) (by omega);simp only[uv] at hr;rw[hr,aI,qP];rfl
   have aP:=eD U;clear U;have aQ:Hid (c<=0)\/(0<c/\∃g,∃l:gh,j.cell? (eJ k ((c- 1)*4))=some (eE g)/\j.cell? (eJ k ((c- 1)*4+1))=some (eE l.length)/\0<=g/\g+l.length<=4294967296/\decide (d<g+(l.length:Int))=false):=by
    rcases x5 c with H|H
    ·exact .inl (eD (by omega))
    ·obtain⟨g,F,rg,G,l,he,D,E,b1,b2⟩:=ad (c- 1) (by omega);have m:=am ⟨g,F,rg,G,l⟩ (mp (i:=c- 1) (by rw[List.getElem?_take_of_lt (by omega)];exact he));exact .inr ⟨H,g,l,D,E,b1,b2,by simp only at m;simp;omega⟩
   have aR:b.length<=c\/(c<b.length/\∃A,j.cell? (eJ k (c*4))=some (eE A)/\d<=A/\A<=4294967296/\decide (A<d+(a:Int))=false):=by
    rcases m0 c b with I|I
    ·obtain⟨A,sp,sg,sc,sb,aS,e0,e1,b3,b4⟩:=ad c I;have w:=an ⟨A,sp,sg,sc,sb⟩ (mp (i:=0) (by rw[S6];exact aS));exact .inr ⟨I,A,e0,by simp only at w;omega,by omega,by simp only at w;simp;omega⟩
    ·exact .inl I
   have aT:Hid (b.length=0)\/ak=some (eJ k 0):=by
    rcases x5 b with h|h
    ·exact .inl (eD h)
    ·exact .inr (hA h)
   clear ad hA;rcases aT with aU|rfl;all_goals rcases aQ with H|⟨H,g,l,D,E,b1,b2,d0⟩<;>rcases aR with I|⟨I,A,e0,b3,b4,d1⟩
   any_goals (exfalso;have:=aU.out;omega)
   all_goals
    try have dk:decide ((0:Int)<(c:Int))=false:=by have:=H.out;simp;omega
    try have a2:decide (0<c)=false:=by have:=H.out;simp;omega
    try have dl:decide ((c:Int)<(b.length:Int))=false:=by simp;omega
    try have a3:decide (c<b.length)=false:=by simp;omega
    go_wp2;go_quiet (fail)
    go_wp
    have J:=eF.drewN j nq;generalize j.drewN nq=o at*;have V:=eD (M.ext J);have aV:=J.cell hp;have au:=eY hB J.size;have ae:=V.eH.lt;have p0:∀af:KW [p] o,af.w.cell? (eJ p 0)=some _:=λaf=>af.cell aV (by simp);refine gU [p] [0,1,2,3,4,5,6,7,8,9,10] [11,12,13,14,15,16,17] 4 ?_;repeat(go_big_quiet_step (fail))
    refine eO ?_;clear p0;refine gH ?_;have U:=aP o.drew;go_wp
    clear U;refine⟨KC.of (λag m=>by simp only[fF] at m;subst m;exact(SY _ _ _ ae)), ?_⟩;have av:((o.alloc (eN (madeCells #[Value.int .u8 0] a) 5)).drew).ownsRow s 5 1 (fN o a a) a (jl (iF a)):=by
     have hh:(madeCells #[Value.int .u8 0] a).toList=jl (iF a):=by rw[wI];simp[jl,iF]
     rw[<-hh];exact(eF.drew _).own (AI o _ a au (by unfold maxLen;omega) (by rw[<-Sd,hh,ju];simp[iF]))
    have ah:=(eF.alloc o (eN (madeCells #[Value.int .u8 0] a) 5)).trans (eF.drew _);have aW:((o.alloc (eN (madeCells #[Value.int .u8 0] a) 5)).drew).heap.size=o.heap.size+1:=by simp
    generalize(o.alloc (eN (madeCells #[Value.int .u8 0] a) 5)).drew=u at*;have aX:=eD av;have aw:=eD ah;have ax:KC [p] o u:=KC.of (λag m=>by simp only[fF] at m;subst m;exact ah.below.block _ ae);clear av ah aW;generalize ay:o.heap.size=v at*;refine gH ?_;go_wp
    refine⟨ax, ?_⟩;refine gH ?_;go_wp
    have az:eQ (u.alloc (eN #[eE d,eE a,eE f,fN v a a] 157)) u 157 (Rg.eL ⟨d,f,v,a,iF a⟩).toArray:=by have:=eQ.new u 157 #[eE d,eE a,eE f,fN v a a];simpa[Rg.eL,iF] using this
    have aA:(iF a).length=a:=by simp[iF]
    have aB:=(eF.alloc u (eN #[eE d,eE a,eE f,fN v a a] 157)).own aX;have aC:(Value.slice _ b N).ownBlock≠some u.heap.size:=λe=>by have h1:=(V.row.lt _ e).2;have z:=aw.size;omega
    have K:=aw.trans (eF.alloc u (eN #[eE d,eE a,eE f,fN v a a] 157));generalize u.alloc (eN #[eE d,eE a,eE f,fN v a a] 157)=W at*;generalize u.heap.size=b3 at*;have Q:=V.ext K;have aD:v<=W.heap.size:=by rw[<-ay];exact K.size
    have aY:=eD (Ge s _ b c ⟨d,f,v,a,iF a⟩ b3 W Q.row hK az aC (by omega) (eY au aD));have aZ:Hid (∀y x,x.ownsRow s 157 4 y (b.length+1) (iY (b.take c++⟨d,f,v,a,iF a⟩::b.drop c))->fi (λq=>(Value.slice _ b N).ownBlock=some q) W x->KC [p] o x/\x.cell? (eJ p 0)=some (.slice _ b N)/\x.frozen? (eJ p 0)=false/\PP (fH (eE 0)) (x.setCell (eJ p 0) y)):=eD (λy x R w=>by have aE:=oS Q.row Q.eH (by decide);have aF:=w.eH Q.eH aE;obtain⟨s1,s2⟩:=V.Vp (r:=⟨d,f,v,a,iF a⟩) K (by show W.ownsRow s _ 1 (.slice _ (iF a).length a) (iF a).length _;rw[aA];exact aB) (by simp only;omega) hK R w aK (by simp only[aA];omega);refine⟨KC.of (λag m=> ?_),aF.cell 0 rfl,aF.frozen 0,ao _ ⟨v,a,y,by have:=J.size;omega,s1,(CH.fg J).fk s2⟩⟩;simp only[fF] at m;subst m;exact(w.block _ (nX ae aD) aE).trans (K.below.block _ (by omega)))
    refine⟨KC.of (λag m=>by simp only[fF] at m;subst m;exact K.below.block _ (by omega)), ?_⟩;clear az aB Q aC K ax aL am an ao J ay;refine gH ?_;go_wp
    refine aY.mono ?_;rintro e x ⟨y,rfl,R,w⟩;obtain⟨f1,f2,f3,f4⟩:=aZ y x R w;obtain⟨A',c',rfl⟩:=eR R;have a0:=eD f4;clear R w f4;go_wp2;refine⟨f1, ?_⟩;refine jm ?_;go_wp2;exact a0
theorem ux{P:Program}(d:eI)(m:Nat)(j:ik)(size c f i:Nat)(k:fY)(u:d.ownsRow m j size (fN c f i) f k)(b:Nat)(a:fY)(v:∀w∈a,w.oneCell'=true)(D:b*size+a.length<=f*size):
 ∃l,(storeCells (eJ c (b*size)) a).run P d=.ok () l/\l.ownsRow m j size (fN c f i) f (k.take (b*size)++a++k.drop (b*size+a.length))/\d.grownBy l (some c):=by
 rcases u with⟨E,h|⟨F,G,g,n,x,o,p,y,r,z⟩⟩
 ·cases h.1
 simp only[ml,fd,ny,gP,ky] at n;obtain⟨rfl,rfl⟩:=n;have H:f*size<=i*size:=qU _ p;have s:=MF P c (b*size) j a 0 g d o (by rw[m5,r];omega) v;rw[m5] at s;refine⟨_,s,⟨?_,.inr ⟨c,i,(g.toList.take (b*size)++a++g.toList.drop (b*size+a.length)).toArray,rfl,x,setRow_heap d c g _ j _ o,p,y, ?_, ?_⟩⟩,⟨rfl,rfl,rfl,by simp[World.setRow],λA _ B=>MG d c A _ (λe=>B (by simp[e]))⟩⟩
 ·simp only[fT,ig,jE];omega
 ·simp only[DG,fT,ig,jE,Sd];omega
 ·subst z;have I:g.toList.length=i*size:=by simpa using r
  generalize g.toList=C at*;have t:(C.take (b*size)++a).length=b*size+a.length:=by rw[fT,ig,lK (by omega)]
  rw[Mu,mZ (by rw[t];omega),t,AG,lK (by omega),S5]
theorem Gh{P:Program}(g:eI)(m:Nat)(n u e:ik)(i:TypeInfo)(size:Nat)(v:P.underlying n=some (.slice e))(w:P.info? e=some i)(x:i.size=size)(j a d:Nat)(l:fY)(r:g.ownsRow m e size (fN j a d) a l)(b f:Nat)(o:Addr)(ac:Nat)(c:fY)(s:c.length=f*size)(y:Rd g (some o) c)(z:∀A∈c,A.oneCell'=true)(B:b+f<=a):
 ∃k,(Builtin.append_ #[n,n] u #[fN j b d,.slice (some o) f ac]).run P g=.ok (fN j (b+f) d) k/\
  k.ownsRow m e size (fN j a d) a (l.take (b*size)++c++l.drop (b*size+c.length))/\g.grownBy k (some j):=by
 subst x;have L:a<=d:=by
  rcases r.2 with⟨h,_⟩|⟨M,N,O,C,_,_,h,_⟩
  ·cases h
  ·injection C with _ _ t;omega
 have D:b*i.size+c.length<=a*i.size:=by rw[s,<-lI];exact qU _ B
 obtain⟨k,E,F,t⟩:=ux (P:=P) g m e i.size j a d l r b c z D;have G:=run_firstCells_some (P:=P) g i.size f o f ac c s (λH Q I=>by
  obtain⟨J,rfl⟩:=jS.1 I;obtain⟨R,S,p,K⟩:=y H J;injection p with p
  subst p;rw[P4];exact K)
 refine⟨k, ?_,F,t⟩;simp[Builtin.append_,Aq v,sizeOf,typeInfo,w,Builtin.lenOf,show b+f<=d by omega,G,P4,E]
theorem ta{P:Program}{rest:List Oper}{p:Exit->Act->eI->Prop}(t:kE.guard=none)(r s:Operand)(j:ik)(u:kE.op=.call {callee:=.builtin .append,args:=#[r,s],argTypes:=#[j,j]})(m:Nat)(e:ik)(n:TypeInfo)(size:Nat)(v:P.underlying j=some (.slice e))(x:P.info? e=some n)(y:n.size=size)(b c f:Nat)(l:fY)(z:w.ownsRow m e size (fN b c f) c l)(k:Nat)(A:a.eval r=fN b k f)(o:Addr)(ac g:Nat)(B:a.eval s=.slice (some o) g ac)(d:fY)(C:d.length=g*size)(D:Rd w (some o) d)(E:∀F∈d,F.oneCell'=true)(G:k+g<=c)(h:∀i,i.ownsRow m e size (fN b c f) c (l.take (k*size)++d++l.drop (k*size+d.length))->w.grownBy i (some b)->wpList P kG p rest (a.put kE.dst (fN b (k+g) f)) i):wpList P kG p (kE::rest) a w:=by refine ul t λL H=> ?_;obtain⟨i,I,J,K⟩:=Gh (P:=P) w m j kE.type e n size v x y b c f l z k g o ac d C D E G;unfold Oper.wp execOp;simp only[u,resolve,invoke,builtin,nU,rt,sU,Hz,hU,jt,A,B,I];exact H _ _ (h i J K)
theorem zF(a:kx)(b:Nat):(Builtin.zeroCells a b).toList.length=b*a.size:=by simp[AH]
theorem zG(a:kx)(h:∀b∈a.toList,b.oneCell'=true)(g:Nat):∀b∈(Builtin.zeroCells a g).toList,b.oneCell'=true:=by
 intro b c;unfold Builtin.zeroCells at c;simp only[Array.toList_map,fy,Array.toList_range,ll] at c;obtain⟨d,f,rfl⟩:=c;have i:0<a.size:=Nat.pos_of_ne_zero λe=>by rw[e] at f;simp at f
 have j:d%a.size<a.size:=pS _ i;rw[Dr a (d%a.size) j];exact h _ (by simp)
theorem lY{P:Program}{rest:List Oper}{o:Exit->Act->eI->Prop}(r:kE.guard=none)(p:Operand)(j:ik)(s:kE.op=.call {callee:=.builtin .clear,args:=#[p],argTypes:=#[j]})(l:Nat)(e:ik)(g:eS)(size:Nat)(t:P.underlying j=some (.slice e))(u:∀w,(zeroValue e).run P w=.ok g w)(v:g.cells.size=size)(x:∀y∈g.cells.toList,y.oneCell'=true)(b c m:Nat)(i:fY)(z:w.ownsRow l e size (fN b c m) c i)(k d ac:Nat)(A:a.eval p=.slice (some (eJ b (k*size))) (d+1) ac)(B:k+(d+1)<=c)(h:∀f zs,zs.length=(d+1)*size->f.ownsRow l e size (fN b c m) c (i.take (k*size)++zs++i.drop (k*size+zs.length))->w.grownBy f (some b)->wpList P kG o rest (a.put kE.dst (ij #[])) f):wpList P kG o (kE::rest) a w:=by
 refine ul r λH C=> ?_;have n:=zF g.cells (d+1);rw[v] at n;obtain⟨f,D,E,F⟩:=ux (P:=P) w l e size b c m i z k (Builtin.zeroCells g.cells (d+1)).toList (zG _ x _) (by rw[n,<-lI];exact qU _ B);have G:(Builtin.clear_ #[j] kE.type #[.slice (some (eJ b (k*size))) (d+1) ac]).run P w=.ok (ij #[]) f:=by simp[Builtin.clear_,Aq t,u,D]
 unfold Oper.wp execOp;simp only[s,resolve,invoke,builtin,nU,rt,sU,Hz,hU,jt,A,G];exact C _ _ (h f _ n E F)
def sD(w:eI)(B:Nat)(E:ik)(size g m c:Nat)(xs:fY)(e:Ending)(w':eI):Prop:=e=fH (fN g m c)/\w'.ownsRow B E size (fN g m c) m xs/\w.grownBy w' (some g)
theorem po(h:w.grownBy v (some n))(k:v.grownBy u (some n)):w.grownBy u (some n):=
 ⟨k.os.trans h.os,k.tape.trans h.tape,k.output.trans h.output,eY h.size k.size,λa b c=>(k.block a (nX b h.size) c).trans (h.block a b c)⟩
theorem uy{size k:Nat}{zs:fY}(d:l.length=(n+1)*size)(f:zs.length=1*size)(b:k<=n):
 ((l.take (k*size)++l.drop ((k+1)*size)++l.drop (k*size+(l.drop ((k+1)*size)).length)).take (n*size)++zs++(l.take (k*size)++l.drop ((k+1)*size)++l.drop (k*size+(l.drop ((k+1)*size)).length)).drop (n*size+zs.length)).take (n*size)=l.take (k*size)++l.drop ((k+1)*size):=by
 have g:k*size<=n*size:=qU _ b;have i:(n+1)*size=n*size+size:=by rw[lI];omega
 have j:(k+1)*size=k*size+size:=by rw[lI];omega
 have a:(l.take (k*size)++l.drop ((k+1)*size)).length=n*size:=by rw[fT,ig,jE];omega
 have c:(l.take (k*size)++l.drop ((k+1)*size)++l.drop (k*size+(l.drop ((k+1)*size)).length)).take (n*size)=l.take (k*size)++l.drop ((k+1)*size):=wH a;rw[c,iK];exact wH a
theorem rE(a:eI):(zeroValue 157).run prog a=.ok (fV Ui) a:=by kernel_rfl
theorem zH:(prog.info? 157).map (λa=>(a.zero,a.size,a.bytes))=some (some (.agg #[.int .i64 0,.int .i64 0,.int .i64 0,.slice none 0 0]),4,48):=by kernel_rfl
theorem JD(i d a f k:Nat)(c:fY)(b:eI)(m:b.ownsRow i 157 4 (fN d (a+1) f) (a+1) c)(z:∀g∈c,g.oneCell'=true)(A:k<=a)(O:a<=4096):
 Calls prog 131 #[fN d (a+1) f,eE k,eE ((k:Int)+1)] b (sD b i 157 4 d a f (c.take (k*4)++c.drop ((k+1)*4))):=by
 obtain⟨F,G,P,H,Q⟩:=info_parts zH;have B:a+1<=f/\f<=maxLen:=by
  rcases m.2 with⟨h,_⟩|⟨j,R,S,I,_,_,h,T,_⟩
  ·cases h
  ·injection I with _ _ U;omega
 obtain⟨B,J⟩:=B;unfold maxLen at J;have C:=m.1;have D:=eD m;have K:=eD z;have r:=eD C;have L:Hid (∀t,(t=((eJ d ((k+1)*4)):Addr)\/k=a)->Rd b.drew (some t) (c.drop ((k+1)*4))):=eD (λt M=>by
  rcases M with rfl|rfl
  ·exact mo ((eF.drew b).own m) _
  ·rw[tC (by omega)];exact Rd.nil _ _)
 have V:((k:Int)==(k:Int)+1)=false:=mn.2 (by omega);clear m z C;rcases m0 k a with s|s
 ·go_in;go_wp
  refine mC [0,1,2,3,4,5] [6,7] (λu=>∃g:EW b,u=g.w) (by kernel_rfl) (by kernel_rfl) (by decide) (by simp[gj];rfl) (by simp[gj];rfl) ⟨⟨_,eF.drew b⟩,rfl⟩ ?_;repeat(go_big_quiet_step (fail))
  refine eO ?_;go_wp2_with (refine ta rfl (.tmp 22) (.tmp 25) 150 rfl i 157 F 4 underlying150 G H d (a+1) f c ((eF.drew b).own D) k rfl _ _ _ rfl (c.drop ((k+1)*4)) (by rw[jE,r];omega) (L _ (by first|exact .inl rfl|exact .inr (by omega))) (λg l=>K g (qV l)) (by omega) ?_)
  intro N E j;have v:=eD E;have w:Hid (b.grownBy N (some d)):=eD ⟨j.os,j.tape,j.output,j.size,j.block⟩;clear E j;go_wp2_with (refine lY rfl (.tmp 31) 150 rfl i 157 _ 4 underlying150 (rE) rfl (by intro g l;simp[Value.cells] at l;rcases l with rfl|rfl|rfl|rfl<;>rfl) d (a+1) f _ v a 0 _ rfl (by omega) ?_)
  intro x zs n o p;have y:Hid (sD b i 157 4 d a f (c.take (k*4)++c.drop ((k+1)*4)) (fH (fN d a f)) x):=eD ⟨rfl,by have:=rC o (k:=a) (by omega);have e:=uy (zs:=zs) r (by simpa using n) A;simp only[iK,jE] at e this;rwa [e] at this,po w.out p⟩
  clear o p n;go_wp
  go_ret;exact y
 ·have v:Hid (b.drew.ownsRow i 157 4 (fN d (a+1) f) (a+1) (c.take (k*4)++c.drop ((k+1)*4)++c.drop (k*4+(c.drop ((k+1)*4)).length))):=eD (by have e:(c.drop ((k+1)*4))=[]:=tC (by rw[r];omega);simp only[e,ox,jH,m5,oa];exact(eF.drew b).own D)
  have w:Hid (b.grownBy b.drew (some d)):=eD ⟨rfl,rfl,rfl,fJ _,λ_ _ _=>rfl⟩;obtain rfl:a=k:=by omega
  clear s;rcases m0 (a+1) f with s|s
  case' inr=>obtain rfl:f=a+1:=by omega
  all_goals
   go_in;go_wp2;refine mC [0,1,2,3,4,5] [6,7] (λu=>∃g:EW b,u=g.w) (by kernel_rfl) (by kernel_rfl) (by decide) (by simp[gj];rfl) (by simp[gj];rfl) ⟨⟨_,eF.drew b⟩,rfl⟩ ?_;repeat(go_big_quiet_step (fail))
   refine eO ?_;go_wp2_with (refine lY rfl (.tmp 31) 150 rfl i 157 _ 4 underlying150 (rE) rfl (by intro g l;simp[Value.cells] at l;rcases l with rfl|rfl|rfl|rfl<;>rfl) d (a+1) _ _ v a 0 _ rfl (by omega) ?_)
   intro x zs n o p;have y:Hid (sD b i 157 4 d a _ (c.take (a*4)++c.drop ((a+1)*4)) (fH (fN d a _)) x):=eD ⟨rfl,by have:=rC o (k:=a) (by omega);have e:=uy (zs:=zs) r (by simpa using n) A;simp only[iK,jE] at e this;rwa [e] at this,po w.out p⟩
   clear o p n;go_wp
   go_ret;exact y
theorem uw.VF{a:List Rg}(h:sB a){n p:Int}(b:1<=n)(c:n<=1048576)(d:iq (jn n) a 4096+jn n<=4294967296)(f:0<=p)(g:p<=7)(i:a.length<4096):uw a (iq (jn n) a 4096) n p:=by
 have j:0<jn n:=by unfold jn;omega
 obtain⟨k,l,s,m,o⟩:=pY (jn n) j a 4096 h.pw (λq r=>h.ok q r) (by decide);exact⟨k,l,b,c,d,f,g,i,m,o⟩
def DL(w:eI)(B p:Nat)(rs:List Rg)(a iU:Int)(n:Nat)(e:Ending)(w':eI):Prop:=e=fH (ij #[eE a,eE 0])/\∃g c v',w.heap.size<=g/\j' w' B p (nz rs a iU n g c) v'/\CH B jr [] w w'
theorem QD(d f:Nat)(b:List Rg)(k:eS)(a c:Int)(i:Nat)(g:eI)(h:j' g d f b k)(o:sB b)(l:1<=a)(m:a<=1048576)(p:iq (jn a) b 4096+jn a<=4294967296)(r:0<=c)(s:c<=7)(z:b.length<4096)(t:jn a=i)(A:d<=g.heap.size):
 Calls prog 185 #[fw f,eE a,eE c] g (DL g d f b (iq (jn a) b 4096) c i):=by
 have B:=eD (uw.VF o l m p r s z);have C:=eD (B4 d f b k a g h l m (by omega));have D:=eD h;have E:=eD t;clear h o t p;generalize iq (jn a) b 4096=n at*;go_in;go_wp
 refine(xZ a c _ l m r s).mono ?_;rintro e u ⟨rfl,rfl⟩;go_wp21
 refine C.mono ?_;rintro e u ⟨rfl,j⟩;have v:=eD j;have F:=eD (sC d f b k n a c i u (D.ext j) B E (eY A j.size));clear j;go_wp21
 refine F.mono ?_;rintro e G ⟨rfl,H,I,J,w,x,y⟩;have K:Hid (DL g d f b n c i (fH (ij #[eE n,eE 0])) G):=eD ⟨rfl,H,I,J,eY v.size w,x,(CH.fg v).fk (pn.sub y)⟩;clear w x y;go_wp2;go_ret2
 exact K
theorem j'.sub{w w4:eI}{B p:Nat}{f rs':List Rg}{v v':eS}(h:j' w B p f v)(a:eF w w4)(c:rs'.Sublist f)(g:w4.ownsRow B 157 4 v' rs' (iY rs')):
 j' (w4.setCell (eJ p 0) v') B p rs' v'/\CH B jr [] w (w4.setCell (eJ p 0) v'):=by have b:=h.ext a;refine⟨⟨by simpa using b.eH.set 0 v',h.low,il g b.eH (by decide) _,λd a=>il (b.each d (c.subset a)) b.eH (by decide) _, ?_,eY c.length_le h.iO,λd a=>h.vq d (c.subset a)⟩,(CH.fg a).fk (CH.set b.eH h.low (by simp[jr]) 0 v')⟩;exact(c.map Rg.g).nodup h.pX
def xf(w:eI)(B p:Nat)(rs:List Rg)(m:Nat)(e:Ending)(w':eI):Prop:=e=fH (eE 0)/\∃v',j' w' B p (rs.take m++rs.drop (m+1)) v'/\CH B jr [] w w'
theorem JE(d f:Nat)(a:List Rg)(w:eS)(k:Int)(b:Nat)(g:eI)(h:j' g d f a w)(G:b<a.length)(x:a[b].at_=k)(y:∀z (T:z<b),a[z].at_≠k)(H:d<=g.heap.size):
 Calls prog 72 #[fw f,eE k] g (xf g d f a b):=by
 have I:=eD h;have J:=eD (Js d f a w k b g h G x y);obtain⟨p,r,rfl,_⟩:=jI h.row (by omega);obtain⟨i,A⟩:∃i,a.length=i+1:=⟨a.length- 1,by omega⟩;have j:=eD A;have U:=h.iO;clear h x y A;go_in;go_wp
 refine J.mono ?_;rintro e K ⟨rfl,c⟩;have l:=I.ext c;have V:=l.eH.ce 0 (fN p a r);have B:=eD c;have L:=eD (ME (some (eJ p 0)) a r (iY a) K (λh=>by cases h) (pW a) (by simpa using mo l.row 0) (np a) (by omega));have m:=eD l;clear c l;go_wp21
 refine L.mono ?_;rintro e M ⟨v',rfl,s,c⟩;obtain⟨t,u,rfl,_⟩:=jI s (by omega);have N:=m.ext c;have n:=JD d t i u b (iY a) M (by rw[<-j.out];exact fq s (eY H B.size)) (np a) (by have:=j.out;omega) (by have:=j.out;omega);rw[<-j] at n;have n:=eD n;have O:=eD c;clear s c N;go_wp21
 refine n.mono ?_;rintro e P ⟨rfl,v,C⟩;have o:=(fi.grown C).ext O;have D:(a.take b++a.drop (b+1)).length=i:=by have:=j.out;simp only[fT,ig,jE];omega
 rw[qt jO,qr jO,<-hZ] at v;obtain⟨E,F⟩:=m.sub (rs':=a.take b++a.drop (b+1)) (v':=fN t i u) o (by
  have Q:(a.drop (b+1)).Sublist (a.drop b):=by rw[<-QE];exact List.drop_sublist _ _
  have R:=(DM (a.take b)).append Q;rwa [oa] at R) (by rw[D];exact v)
 have S:Hid (xf g d f a b (fH (eE 0)) (P.setCell (eJ f 0) (fN t i u))):=eD ⟨rfl,_,E,(CH.fg B).fk F⟩;have W:=(m.ext o).eH.ce 0 (fN p a r);have X:=(m.ext o).eH.frozen 0;clear v C o D E F;go_wp2;go_ret;exact S
theorem jT.ext{w w':eI}{L:mB}{k:Nat}(h:jT w L k)(b:eF w w'):jT w' L k:=by
 obtain⟨c,d,f,a,g⟩:=h;have i:k<w.heap.size:=by
  rcases m0 k w with h|h
  ·exact h
  ·rw[V5 h] at a;cases a
 exact⟨c,d,f,(b.below.block k i).trans a,g⟩
theorem jT.not{L L':mB}(h:jT w L n)(c:∀b∈L,b∉L'):¬jT w L' n:=λd=>by
 obtain⟨k,b,l,f,g⟩:=h;obtain⟨m,t2,o,a,i⟩:=d;rw[f] at a;injection a with a
 injection a with _ j
 exact c b g (j▸i)
structure nN(w:eI)(m:Im)(BA:fE)(bc:Nat)(gC:gh):Prop where
 n:m.c2.n=1
 FY:Rd w m.c2.A [eE 0,eE gC.length,.slice BA gC.length bc,eE 5]
 pos:1<=gC.length
 iO:gC.length<=64
theorem nN.ext{w w':eI}{m:Im}{gC:gh}(h:nN w m A n gC)(a:eF w w'):nN w' m A n gC:=⟨h.n,a.rd h.FY,h.pos,h.iO⟩
structure yh(w:eI)(m:Im)(BA:fE)(bc:Nat)(gC:gh):Prop extends nN w m BA bc gC where
 bytes:Rd w BA (jl gC)
 ty:∀b o,BA=some (eJ b o)->jT w [5] b
theorem yh.ext{w w':eI}{m:Im}{gC:gh}(h:yh w m A n gC)(a:eF w w'):yh w' m A n gC:=⟨h.tonN.ext a,a.rd h.bytes,λb c e=>(h.ty b c e).ext a⟩
theorem nN.cells{w:eI}{m:Im}{gC:gh}(h:nN w m A n gC):∃b c,m.c2.A=some (eJ b c)/\b<w.heap.size/\w.cell? (eJ b c)=some (eE 0)/\w.cell? (eJ b (c+1))=some (eE gC.length)/\w.cell? (eJ b (c+2))=some (.slice A gC.length n)/\w.cell? (eJ b (c+3))=some (eE 5):=by
 obtain⟨b,c,f,g⟩:=h.FY 0 (by simp);refine⟨b,c,f,js g,g, ?_, ?_, ?_⟩;all_goals
  first
  |(obtain⟨i,j,a,d⟩:=h.FY 1 (by simp);rw[f] at a;simp only[fd,ny,gP] at a;obtain⟨rfl,rfl⟩:=a;exact d)
  |(obtain⟨i,j,a,d⟩:=h.FY 2 (by simp);rw[f] at a;simp only[fd,ny,gP] at a;obtain⟨rfl,rfl⟩:=a;exact d)
  |(obtain⟨i,j,a,d⟩:=h.FY 3 (by simp);rw[f] at a;simp only[fd,ny,gP] at a;obtain⟨rfl,rfl⟩:=a;exact d)
theorem QG(a:Int)(b:eI)(d:0<=a)(f:a<=1048576):Calls prog 379 #[eE a] b λe c=>e=fH (eE (jn a))/\b=c:=by
 go_in;go_wp
 go_ret;unfold jn;exact⟨rfl,rfl⟩
theorem Gi(g:Im)(a:eI)(b:fE)(c:Nat)(gC:gh)(h:nN a g b c gC):
 Calls prog 360 #[fV g.eL.toArray] a λe Z=>e=fH (eE 64)/\eF a Z:=by
 obtain⟨i,j,V,hb,d0,d1,d2,d3⟩:=h.cells;have W:=h.n;have hp:=h.pos;have hf:=h.iO;have X:jn gC.length=64:=by unfold jn;omega
 have d:=λa=>QG gC.length a (by omega) (by omega);rw[X] at d;have d:=eD d;clear h X;obtain⟨k,l,⟨A2,n2,m⟩,⟨n,o,p⟩,⟨r,s,t⟩,u,v,w,⟨x,y,z,A,B,C,D⟩,⟨E,F,G⟩,⟨H,I,J⟩,⟨K,L,M⟩,⟨N,O,P⟩,⟨Q,R,S⟩,T⟩:=g;simp only at V W;subst V W;simp only[Im.eL];go_in;go_wp
 refine wp_loop_rounds 2 ?_;rw[rounds_succ];go_wp
 have Y:eF a ((a.alloc (eN #[eV k,eE l,.slice (some (eJ i j)) 1 m,.slice n o p,.slice r s t,.slice u w v,.slice x z y,.slice A C B,eE D,.slice E F G,.slice H I J,.slice K L M,.slice N O P,.slice Q R S,eE T] 174)).alloc (eN #[eE 0,eE gC.length,.slice b gC c,eE 5] 255)):=oP.trans oP;have f:=eQ.new (a.alloc (eN #[eV k,eE l,.slice (some (eJ i j)) 1 m,.slice n o p,.slice r s t,.slice u w v,.slice x z y,.slice A C B,eE D,.slice E F G,.slice H I J,.slice K L M,.slice N O P,.slice Q R S,eE T] 174)) 255 #[eE 0,eE gC.length,.slice b gC c,eE 5];rw[fM] at f;have HX:=eD Y;clear Y d0 d1 d2 d3;generalize(a.alloc (eN #[eV k,eE l,.slice (some (eJ i j)) 1 m,.slice n o p,.slice r s t,.slice u w v,.slice x z y,.slice A C B,eE D,.slice E F G,.slice H I J,.slice K L M,.slice N O P,.slice Q R S,eE T] 174)).alloc (eN #[eE 0,eE gC.length,.slice b gC c,eE 5] 255)=U at*;generalize a.heap.size+1=ae at*;have b0:=f.ew 0 (eE 0) rfl;have b1:=f.ew 1 (eE gC.length) rfl;refine xO [0,1,2,3,4] [5,6,7,8] 2 ?_;repeat(go_big_quiet_step (fail))
 refine eO ?_;refine gH ?_;go_wp
 refine(d _).mono ?_;rintro e w3 ⟨rfl,rfl⟩;have ad:=eD (HX.trans (eF.drew U));clear b0 b1 f;go_wp2;refine⟨⟨⟨_,eF.drew U⟩,rfl⟩, ?_⟩;refine gH ?_;go_wp
 refine⟨⟨⟨_,eF.drew U⟩,rfl⟩, ?_⟩;refine jm ?_;go_wp
 rw[rounds_succ];go_wp
 go_ret;exact⟨rfl,ad⟩
theorem Gj(c p:Nat)(b:List Rg)(v:eS)(d:Int)(q:Nat)(g:Im)(l:fE)(m:Nat)(gC:gh)(a:eI)(h:j' a c p b v)(i:nN a g l m gC)(n:q<b.length)(o:b[q].at_=d)(r:∀j (hj:j<q),b[j].at_≠d)(k:c<=a.heap.size):
 Calls prog 195 #[fw p,eE d,fV g.eL.toArray] a (xf a c p b q):=by
 obtain⟨x,y,s,hb,d0,d1,d2,d3⟩:=i.cells;have t:=i.n;have z:=eD (λa (h:j' a c p b v) k=>JE c p b v d q a h n o r k);have ha: -9223372036854775808<=d/\d<=9223372036854775807:=by have:=h.vq _ (eU n);omega
 have A:=eD h;clear h i o r;obtain⟨B,C,⟨A2,n2,D⟩,⟨E,F,G⟩,⟨H,I,J⟩,K,L,M,⟨N,O,P,Q,R,S,T⟩,⟨U,V,W⟩,⟨X,Y,Z⟩,⟨ad,ae,af⟩,⟨ag,ah,ai⟩,⟨aj,ak,al⟩,am⟩:=g;simp only at s t;subst s t;simp only[Im.eL];go_in;go_wp
 refine wp_loop_rounds 2 ?_;rw[rounds_succ];go_wp
 have f:eF a ((a.alloc (eN #[eV B,eE C,.slice (some (eJ x y)) 1 D,.slice E F G,.slice H I J,.slice K M L,.slice N P O,.slice Q S R,eE T,.slice U V W,.slice X Y Z,.slice ad ae af,.slice ag ah ai,.slice aj ak al,eE am] 174)).alloc (eN #[eE 0,eE gC.length,.slice l gC m,eE 5] 255)):=oP.trans oP;refine(z _ (A.ext f) (eY k f.size)).mono ?_;rintro e w3 ⟨rfl,v',u,w⟩;have an:Hid (xf a c p b q (fH (eE 0)) w3):=eD ⟨rfl,v',u,(CH.fg f).fk w⟩;clear u w f d0 d1 d2 d3;go_wp2;rw[rounds_succ];go_wp
 go_ret;exact an
def yi(rs:List Rg)(a:Int)(g c:Nat)(gC:gh):List Rg:=rs.take (i' a rs)++⟨a,5,g,c,gC++iF (64- gC.length)⟩::rs.drop (i' a rs)
theorem QH(b:List Rg)(a:Int)(c d:Nat)(gC:gh)(i:gC.length<=64):(nz b a 5 64 c d).set (i' a b) (Rg.put ⟨a,5,c,d,iF 64⟩ a gC)=yi b a c d gC:=by
 have f:(b.take (i' a b)).length=i' a b:=by rw[ig,lK (Ca a b)]
 unfold nz yi;rw[yj _ _ (by omega),f,qW];simp only[AJ];have g:(iF 64).drop gC.length=iF (64- gC.length):=List.drop_replicate ..;congr 2
 simp only[Rg.put,Int.sub_self,Int.toNat_zero,uu,j6,lH,g]
theorem Gk(b:List Rg)(a:Int)(d f:Nat)(n:Int)(g:uw b a n 5)(l:n<=64)(i:1<=n):jK (nz b a 5 64 d f) (i' a b) ⟨a,5,d,f,iF 64⟩ a n 0:=by
 have j:(b.take (i' a b)).length=i' a b:=by rw[ig,lK (Ca a b)]
 refine⟨?_,JC _,i,by omega,by simp[iF];omega,by simp[oR],λm o k c=>.inr ?_⟩
 ·unfold nz;rw[qq (by omega),j,qW];rfl
 ·unfold nz at c;rw[qp (by omega)] at c;exact g.below k (mp c)
def DN(w:eI)(B p:Nat)(rs:List Rg)(a:Int)(gC:gh)(e:Ending)(w':eI):Prop:=e=fH (ij #[eE a,eE 0])/\∃g c v',j' w' B p (yi rs a g c gC) v'/\CH B jr [] w w'
theorem MP(B p:Nat)(b:List Rg)(v:eS)(m:Im)(c:fE)(d:Nat)(gC:gh)(a:eI)(h:j' a B p b v)(i:yh a m c d gC)(G:sB b)(H:iq 64 b 4096+64<=4294967296)(hl:b.length<4096)(w:B<=a.heap.size):
 Calls prog 317 #[fw p,fV m.eL.toArray] a (DN a B p b (iq 64 b 4096) gC):=by
 have I:=eD (λa (h:yh a m c d gC)=>Gi m a c d gC h.tonN);obtain⟨k,x,J,hb,d0,d1,d2,d3⟩:=i.tonN.cells;have K:=eD i;have L:=i.n;have hp:=i.pos;have aH:=i.iO;have l:jn gC.length=64:=by unfold jn;omega
 have y:jn 64=64:=by decide
 have t:=λa (h:j' a B p b v)=>B4 B p b v 64 a h (by omega) (by omega) (by rw[y];omega);rw[y] at t;have t:=eD t;have f:=uw.VF G (n:=gC.length) (p:=5) (by omega) (by omega) (by rw[l];exact H) (by omega) (by omega) hl;rw[l] at f;have f:=eD f;have M:=eD h;have aI:=eD (λa (h:j' a B p b v) (w:B<=a.heap.size)=>sC B p b v (iq 64 b 4096) gC.length 5 64 a h f l w);have aM:=f.lo;have aN:iq 64 b 4096<=4294967296:=by have:=f.hi;rw[l] at this;omega
 clear h i G H l y;generalize iq 64 b 4096=j at*;obtain⟨N,O,⟨A2,n2,z⟩,⟨P,Q,R⟩,⟨S,T,U⟩,V,W,X,⟨Y,Z,ad,ae,af,ag,ah⟩,⟨A9,n9,ai⟩,⟨aj,ak,al⟩,⟨am,an,ao⟩,⟨ap,aq,ar⟩,⟨au,av,aw⟩,ax⟩:=m;simp only at J L;subst J L;simp only[Im.eL] at I ⊢;go_in;go_wp
 have A:eF a (a.alloc (eN #[eV N,eE O,.slice (some (eJ k x)) 1 z,.slice P Q R,.slice S T U,.slice V X W,.slice Y ad Z,.slice ae ag af,eE ah,.slice A9 n9 ai,.slice aj ak al,.slice am an ao,.slice ap aq ar,.slice au av aw,eE ax] 174)):=eF.alloc _ _;have o:=eQ.new a 174 #[eV N,eE O,.slice (some (eJ k x)) 1 z,.slice P Q R,.slice S T U,.slice V X W,.slice Y ad Z,.slice ae ag af,eE ah,.slice A9 n9 ai,.slice aj ak al,.slice am an ao,.slice ap aq ar,.slice au av aw,eE ax];refine(I _ (K.ext A)).mono ?_;rintro e w2 ⟨rfl,g⟩;have ay:=eD (A.trans g);have BI:=eD (g.eH o);clear g A o;go_wp21
 refine(t _ (M.ext ay)).mono ?_;rintro e w3 ⟨rfl,g⟩;have r:=eD (ay.trans g);have o:=g.eH BI.out;have i2:=o.ce 2 (.slice (some (eJ k x)) 1 z);have d0:=r.cell d0;have d1:=r.cell d1;have d2:=r.cell d2;have d3:=r.cell d3;clear g o BI;go_wp2;refine wp_loop_rounds 2 ?_;rw[rounds_succ];go_wp
 have s:=r.trans (eF.alloc w3 (eN #[eE 0,eE gC.length,.slice c gC d,eE 5] 255));have az:=eQ.new w3 255 #[eE 0,eE gC.length,.slice c gC d,eE 5];have aA:=eD (aI _ (M.ext s) (eY w s.size));have aB:=eD (K.ext s);refine aA.mono ?_;rintro e w5 ⟨rfl,C,D,v5,hg,aC,u⟩;have aD:CH B pn [] a w5:=(CH.fg s).fk u;have aJ:=eD (pn.sub aD);have E:=u.eH az;have aE:=fi.rd u aB.bytes (λk aK e hk=>hk.2.elim ((aB.ty k aK e).not (by decide)) (by simp));have F:=eD (ML B p _ v5 j c gC.length d gC (i' j b) _ w5 aC (Gk b j C D gC.length f (by omega) (by omega)) rfl aE);rw[QH b j C D gC aH] at F;have s0:=E.ce 0 (eE 0);have s2:=E.ce 2 (.slice c gC d);clear s az hg aC u aD E aE aA;go_wp21
 refine F.mono ?_;rintro e w6 ⟨rfl,aF,aG⟩;have aL:Hid (DN a B p b j gC (fH (ij #[eE j,eE 0])) w6):=eD ⟨rfl,C,D,v5,aF,aJ.fk aG⟩;clear aF aG F s0 s2;go_wp2;rw[rounds_succ];go_wp
 go_ret2
 exact aL
section
def mA(pc tp x sp:Int):fY:=[eE pc,eE tp,eE 0,eE x,eE 0,eE 0,eE 0,eE 0,eE 0,eE 0,eE 0,eE 0,eE 0,eE 0,eE 0,eE 0,eE 0,eE sp]
def xe(pc tp x sp:Int):eS:=fV (mA pc tp x sp).toArray
def CB(k n:Int):eS:=fV #[eE k,eE n,eE 0,eE 0,eE 0]
def mV(pc tp x sp:Int)(q:Nat)(k n:Int):kx:=#[eE pc,eE tp,eE 0,eE x,eE 0,eE 0,eE 0,eE 0,eE 0,eE 0,eE 0,eE 0,eE 0,eE 0,eE 0,eE 0,eE 0,eE sp,fw q,eE k,eE n,eE 0,eE 0,eE 0]
def uP(w:eI)(b:Nat)(cs:kx)(e:Ending)(w':eI):Prop:=e=fH (ij #[])/\eQ w' b 460 cs/\fi (λk=>k=b) w w'
theorem vQ(b:Nat)(a:eI):Calls prog 284 #[fw b,eE 0] a λe c=>e=fH (fz false)/\a=c:=by go_in;go_wp2;go_ret;exact⟨rfl,rfl⟩
variable (b q:Nat) (pc tp x sp nx:Int) (w:eI)
theorem NI(a:Int)(d:eQ w b 460 (mV pc tp x sp q 0 0)):
 Calls prog 286 #[fw b,rk 1 1 a,eE nx] w (uP w b (mV nx tp a sp q 0 0)):=by
 unfold rk;have o:=d.lt;have f:=(d.set 0 (eE nx)).alloc (.cells #[eE 1,eE 1,eE 0,eE 0,eE a] 121);have g:eQ ((w.setCell (eJ b 0) (eE nx)).alloc (.cells #[eE 1,eE 1,eE 0,eE 0,eE a] 121)) w 121 #[eE 1,eE 1,eE 0,eE 0,eE a]:=by simpa using eQ.new (w.setCell (eJ b 0) (eE nx)) 121 #[eE 1,eE 1,eE 0,eE 0,eE a]
 have l:fi (λc=>c=b) w ((w.setCell (eJ b 0) (eE nx)).alloc (.cells #[eE 1,eE 1,eE 0,eE 0,eE a] 121)):=(fi.set _ b 0 _).trans (fi.fg (S:=λc=>c=b) (eF.alloc _ _)) (λj h=>.inl h);have f0:=(d.alloc (.cells #[eE 1,eE 1,eE 0,eE 0,eE a] 121)).frozen 0;have d0:=(d.alloc (.cells #[eE 1,eE 1,eE 0,eE 0,eE a] 121)).ce 0 (eE pc);have p:=g.ce 0 (eE 1);go_in;go_wp2;generalize(w.setCell (eJ b 0) (eE nx)).alloc (.cells #[eE 1,eE 1,eE 0,eE 0,eE a] 121)=k at*;have m:=λi:KW [w.heap.size,b] k=>i.cell (g.ce 1 (eE 1)) (by simp);have n:=λi:KW [w.heap.size,b] k=>i.cell (g.ce 4 (eE a)) (by simp);refine gU [w.heap.size,b] [0,1,2,3,4,5,6,7,8] [9] 0 ?_;repeat(go_big_quiet_step (fail))
 refine eO ?_;refine jm ?_;clear m n;have f3:=f.drew.frozen 3;have d3:=f.drew.ce 3 (eE x);go_wp2;go_end0
 exact⟨rfl,f.drew.set 3 _,(l.trans (fi.fg (S:=λc=>c=b) (eF.drew _)) (λj h=>.inl h)).trans (fi.set _ b 3 _) (λj h=>.inl h)⟩
theorem Rb(c:eQ w b 460 (mV pc tp x sp q 0 0)):
 Calls prog 286 #[fw b,rk 19 1 0,eE nx] w (uP w b (mV nx tp x sp q 2 x)):=by
 unfold rk;have s:=c.lt;have f:=(c.set 0 (eE nx)).alloc (.cells #[eE 19,eE 1,eE 0,eE 0,eE 0] 121);have g:eQ ((w.setCell (eJ b 0) (eE nx)).alloc (.cells #[eE 19,eE 1,eE 0,eE 0,eE 0] 121)) w 121 #[eE 19,eE 1,eE 0,eE 0,eE 0]:=by simpa using eQ.new (w.setCell (eJ b 0) (eE nx)) 121 #[eE 19,eE 1,eE 0,eE 0,eE 0]
 have m:fi (λa=>a=b) w ((w.setCell (eJ b 0) (eE nx)).alloc (.cells #[eE 19,eE 1,eE 0,eE 0,eE 0] 121)):=(fi.set _ b 0 _).trans (fi.fg (S:=λa=>a=b) (eF.alloc _ _)) (λi h=>.inl h);have f0:=(c.alloc (.cells #[eE 19,eE 1,eE 0,eE 0,eE 0] 121)).frozen 0;have d0:=(c.alloc (.cells #[eE 19,eE 1,eE 0,eE 0,eE 0] 121)).ce 0 (eE pc);have t:=g.ce 0 (eE 19);go_in;go_wp2;generalize(w.setCell (eJ b 0) (eE nx)).alloc (.cells #[eE 19,eE 1,eE 0,eE 0,eE 0] 121)=j at*;have n:=λd:KW [w.heap.size,b] j=>d.cell (g.ce 1 (eE 1)) (by simp);have o:=λd:KW [w.heap.size,b] j=>d.cell (f.ce 3 (eE x)) (by simp);refine gU [w.heap.size,b] [0,1,2,3,4,5,6,7,8,9,10,11] [12] 0 ?_;repeat(go_big_quiet_step (fail))
 refine eO ?_;refine jm ?_;clear n o;go_wp2_with (go_loud(refine gI rfl 67 (.tmp 242) (.tmp 240) rfl b 19 rfl (CB 2 x) rfl [eE 2,eE x,eE 0,eE 0,eE 0] rfl f.drew (by simp[Value.oneCell']) (by kernel_rfl) (by simp[mV]) ?_))
 intro p k l;have r:Hid (uP w b (mV nx tp x sp q 2 x) (fH (ij #[])) p):=eD ⟨rfl,k,(m.trans (fi.fg (S:=λa=>a=b) (eF.drew _)) (λi h=>.inl h)).trans (fi.grown l) (λi h=>.inl (by simpa using h))⟩;clear k l;go_wp2;go_end0
 exact r
theorem Rc(j:Nat)(c:List Rg)(k:eS)(v:Nat)(l:Rg)(d:eQ w b 460 (mV pc tp x sp q 0 0))(p:j' w j q c k)(f:jK c v l sp 8 1)(A:l.cut sp 8=z8):
 Calls prog 286 #[fw b,rk 18 0 0,eE nx] w (uP w b (mV 0 tp x (sp+8) q 0 0)):=by
 unfold rk;have N:=d.lt;have m:=(d.set 0 (eE nx)).alloc (.cells #[eE 18,eE 0,eE 0,eE 0,eE 0] 121);have B:eQ ((w.setCell (eJ b 0) (eE nx)).alloc (.cells #[eE 18,eE 0,eE 0,eE 0,eE 0] 121)) w 121 #[eE 18,eE 0,eE 0,eE 0,eE 0]:=by simpa using eQ.new (w.setCell (eJ b 0) (eE nx)) 121 #[eE 18,eE 0,eE 0,eE 0,eE 0]
 have y:fi (λa=>a=b) w ((w.setCell (eJ b 0) (eE nx)).alloc (.cells #[eE 18,eE 0,eE 0,eE 0,eE 0] 121)):=(fi.set _ b 0 _).trans (fi.fg (S:=λa=>a=b) (eF.alloc _ _)) (λn h=>.inl h);have z:j' ((w.setCell (eJ b 0) (eE nx)).alloc (.cells #[eE 18,eE 0,eE 0,eE 0,eE 0] 121)) j q c k:=
  (p.ch (B0:=0) (CH.set (M:=[]) d (eX _) (L:=[460]) (by simp) 0 _) (by decide) (by simp)).ext (eF.alloc _ _)
 have f0:=(d.alloc (.cells #[eE 18,eE 0,eE 0,eE 0,eE 0] 121)).frozen 0;have d0:=(d.alloc (.cells #[eE 18,eE 0,eE 0,eE 0,eE 0] 121)).ce 0 (eE pc);have O:=B.ce 0 (eE 18);go_in;go_wp2;generalize(w.setCell (eJ b 0) (eE nx)).alloc (.cells #[eE 18,eE 0,eE 0,eE 0,eE 0] 121)=g at*;have r:=λi:KW [b] g=>i.cell (m.ce 17 (eE sp)) (by simp);have C:=λi:KW [b] g=>i.cell (m.ce 18 (fw q)) (by simp);have D:=p.vq l (mp f.is);have E:=f.low;have F:=f.high;have P:0<=sp:=by omega
 have Q:sp+8<=4294967296:=by omega
 clear D E F;have G:=eD (λw (h:j' w j q c k)=>DJ j q c k sp v l w h f A);have H:=eD z;clear p z f;refine rx [b] [0,1,2,3,4,5,6,7,8,9] [] (.e [10] (.q [11,12,13,14,15] .done)) ?_;repeat(go_big_quiet_step (fail))
 refine eO ?_;clear r C;refine eT ?_;go_wp2_with fail
 refine(G g.drew (H.ext (eF.drew _))).mono ?_;rintro e s ⟨rfl,t⟩;have u:=((eF.drew g).trans t).eH m;have I:=eD (y.trans (fi.fg (S:=λa=>a=b) ((eF.drew g).trans t)) (λn h=>.inl h));clear t m y;go_wp2;refine fj ?_;repeat(go_big_quiet_step (fail))
 refine eO ?_;refine fP ?_;go_wp2_with fail
 refine(vQ b s).mono ?_;rintro e R ⟨rfl,rfl⟩;have f0:=u.frozen 0;have d0:=u.ce 0 (eE nx);go_wp2;have o:=u.set 0 (eE 0);have J:=eD (I.trans (fi.set s b 0 (eE 0)) (λn h=>.inl h));generalize s.setCell (eJ b 0) (eE 0)=K at*;have r:=λi:KW [b] K=>i.cell (o.ce 17 (eE sp)) (by simp);refine gU [b] [0,1,2,3,4,5,6,7,8,9,10] [11] 0 ?_;repeat(go_big_quiet_step (fail))
 refine eO ?_;refine jm ?_;clear r;have f17:=o.drew.frozen 17;have d17:=o.drew.ce 17 (eE sp);go_wp2;go_end0
 exact⟨rfl,o.drew.set 17 _,(J.trans (fi.fg (S:=λa=>a=b) (eF.drew _)) (λn h=>.inl h)).trans (fi.set _ b 17 _) (λn h=>.inl h)⟩
end
theorem sf(a:eI):(zeroValue 177).run prog a=.ok (fV Uh) a:=by kernel_rfl
theorem z7:(prog.info? 177).map (λa=>(a.zero,a.size,a.bytes))=some (some (.agg #[.int .i64 0,.string ByteArray.empty,.int .i64 0,.string ByteArray.empty,.int .i64 0,.slice none 0 0,.slice none 0 0,.slice none 0 0,.slice none 0 0,.slice none 0 0,.slice none 0 0,.int .i64 0,.slice none 0 0,.slice none 0 0,.slice none 0 0,.slice none 0 0,.slice none 0 0,.int .i64 0,.int .i64 0,.int .i64 0,.bool false,.bool false,.slice none 0 0,.slice none 0 0,.slice none 0 0,.int .i64 0,.slice none 0 0]),27,464):=by kernel_rfl
theorem Lm(g c a f k:Nat)(b:fY)(d:eI)(j:d.ownsRow g 177 27 (fN c (a+1) f) (a+1) b)(x:∀r∈b,r.oneCell'=true)(y:k<=a)(N:a<=4096):
 Calls prog 197 #[fN c (a+1) f,eE k,eE ((k:Int)+1)] d (sD d g 177 27 c a f (b.take (k*27)++b.drop ((k+1)*27))):=by
 obtain⟨D,E,O,F,P⟩:=info_parts z7;have z:a+1<=f/\f<=maxLen:=by
  rcases j.2 with⟨h,_⟩|⟨i,Q,R,G,_,_,h,S,_⟩
  ·cases h
  ·injection G with _ _ T;omega
 obtain⟨z,H⟩:=z;unfold maxLen at H;have A:=j.1;have B:=eD j;have I:=eD x;have o:=eD A;have J:Hid (∀s,(s=((eJ c ((k+1)*27)):Addr)\/k=a)->Rd d.drew (some s) (b.drop ((k+1)*27))):=eD (λs K=>by
  rcases K with rfl|rfl
  ·exact mo ((eF.drew d).own j) _
  ·rw[tC (by omega)];exact Rd.nil _ _)
 have U:((k:Int)==(k:Int)+1)=false:=mn.2 (by omega);clear j x A;rcases m0 k a with p|p
 ·go_in;go_wp2;refine mY [0,1,2,3,4,5] [6,7] ?_;repeat(go_big_quiet_step (fail))
  refine eO ?_;go_wp2_with (refine ta rfl (.tmp 22) (.tmp 25) 95 rfl g 177 D 27 underlying95 E F c (a+1) f b ((eF.drew d).own B) k rfl _ _ _ rfl (b.drop ((k+1)*27)) (by rw[jE,o];omega) (J _ (by first|exact .inl rfl|exact .inr (by omega))) (λr L=>I r (qV L)) (by omega) ?_)
  intro M C i;have t:=eD C;have u:Hid (d.grownBy M (some c)):=eD ⟨i.os,i.tape,i.output,i.size,i.block⟩;clear C i;go_wp2_with (refine lY rfl (.tmp 31) 95 rfl g 177 _ 27 underlying95 (sf) rfl (by simp[Value.cells,Value.oneCell']) c (a+1) f _ t a 0 _ rfl (by omega) ?_)
  intro v zs l m n;have w:Hid (sD d g 177 27 c a f (b.take (k*27)++b.drop ((k+1)*27)) (fH (fN c a f)) v):=eD ⟨rfl,by have:=rC m (k:=a) (by omega);have e:=uy (zs:=zs) o (by simpa using l) y;simp only[iK,jE] at e this;rwa [e] at this,po u.out n⟩
  clear m n l;go_wp2;go_ret;exact w
 ·have t:Hid (d.drew.ownsRow g 177 27 (fN c (a+1) f) (a+1) (b.take (k*27)++b.drop ((k+1)*27)++b.drop (k*27+(b.drop ((k+1)*27)).length))):=eD (by have e:(b.drop ((k+1)*27))=[]:=tC (by rw[o];omega);simp only[e,ox,jH,m5,oa];exact(eF.drew d).own B)
  have u:Hid (d.grownBy d.drew (some c)):=eD ⟨rfl,rfl,rfl,fJ _,λ_ _ _=>rfl⟩;obtain rfl:a=k:=by omega
  clear p;rcases m0 (a+1) f with p|p
  case' inr=>obtain rfl:f=a+1:=by omega
  all_goals
   go_in;go_wp2;refine mY [0,1,2,3,4,5] [6,7] ?_;repeat(go_big_quiet_step (fail))
   refine eO ?_;go_wp2_with (refine lY rfl (.tmp 31) 95 rfl g 177 _ 27 underlying95 (sf) rfl (by simp[Value.cells,Value.oneCell']) c (a+1) _ _ t a 0 _ rfl (by omega) ?_)
   intro v zs l m n;have w:Hid (sD d g 177 27 c a _ (b.take (a*27)++b.drop ((a+1)*27)) (fH (fN c a _)) v):=eD ⟨rfl,by have:=rC m (k:=a) (by omega);have e:=uy (zs:=zs) o (by simpa using l) y;simp only[iK,jE] at e this;rwa [e] at this,po u.out n⟩
   clear m n l;go_wp2;go_ret;exact w
