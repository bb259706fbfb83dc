/- TopOnce: part 9 of the proof. -/
import Derived.Shelf.SlIterI.Nil
import Derived.Shelf.SortM.Plain
import Derived.Shelf.SortM.SortNone
import Derived.Test.YtoaehdgokeicoaaGreatDoorZ04
import Derived.Test.YtoaehdgokeicoaaGreatDoorZ06
import Derived.Test.YtoaehdgokeicoaaGreatDoorZ07
import Derived.Test.YtoaehdgokeicoaaGreatDoorZ08
set_option maxRecDepth 100000
set_option maxHeartbeats 30000000
set_option linter.all false
namespace Go.Proofs.YtoaehdgokeicoaaGreatDoor
open K9 Z9 Go.Proofs.Tryz
section
variable{w v u:eI}{n k m i j p b c d g B K G:Nat}{x y z:eS}{D E F:Int}{A C H I:fE}{l J:fY}{r s t:fe}{f:ik}{a:Act}{kB:List (eS×fS)}{kE:Oper}{kG:Array Oper}{kK:DataW eS}{kM:fS}{kO:mB}
section
open Go.RowKit
structure fo(B:Nat)(w:eI)(L:List (eS×fS)):Prop where
 own:∀(i:Nat) (p:eS×fS),L[i]? =some p->w.ownsRow B 3 1 p.1 p.2 (ints p.2)
 pX:∀(i j:Nat) (p q:eS×fS) (k:Nat),L[i]? =some p->L[j]? =some q->p.1.ownBlock=some k->q.1.ownBlock=some k->i=j
theorem JF(a:fS):(ints a).length=a.length:=by simp[ints]
theorem mI(a b:fS):ints (a++b)=ints a++ints b:=by simp[ints]
theorem jP(l:fS):∀u∈ints l,u.oneCell'=true:=by intro u a;obtain⟨_,_,rfl⟩:=fy.1 a;rfl
theorem fo.ext{B:Nat}{w w':eI}{L:List (eS×fS)}(h:fo B w L)(a:eF w w'):fo B w' L:=⟨λb c d=>a.own (h.own b c d),h.pX⟩
theorem fo.nil(B:Nat)(w:eI)(n:Nat):fo B w (List.replicate n (eW,[])):=
 ⟨λc b a=>by
   obtain rfl:b=(.slice none 0 0,[]):=by
    rw[S8] at a;split at a
    ·exact(mj a).symm
    ·cases a
   exact⟨by simp[ints],.inl ⟨rfl,rfl⟩⟩,λc f b q g a _ d _=>by
   obtain rfl:b=(.slice none 0 0,[]):=by
    rw[S8] at a;split at a
    ·exact(mj a).symm
    ·cases a
   cases d⟩
theorem fo.put{B:Nat}{w:eI}{L:List (eS×fS)}(h:fo B w L){i:Nat}{v j:eS}{xs l:fS}(o:L[i]? =some (v,xs))(y:u.ownsRow B 3 1 j l (ints l))(g:w.grownBy u v.ownBlock)(t:∀k,j.ownBlock=some k->v.ownBlock=some k\/w.heap.size<=k):fo B u (L.set i (j,l)):=by
 have z:=(jS.1 o).1;have x:∀a,(L.set i (j,l))[a]? =if i=a then some (j,l) else L[a]?:=λa=>by
  by_cases h:i=a
  ·subst h;rw[xX z,fW rfl]
  ·rw[ur h,fG h]
 refine⟨λa p b=> ?_,λa k p q d b c r s=> ?_⟩
 ·rw[x] at b;by_cases f:i=a
  ·rw[fW f] at b;obtain rfl:=mj b;exact y
  ·rw[fG f] at b;exact(fi.grown g).own (h.own a p b) λk A C=>f (h.pX i a _ _ k o b C.symm A)
 ·rw[x] at b c;by_cases f:i=a
  ·by_cases m:i=k
   ·omega
   ·rw[fW f] at b;rw[fG m] at c;obtain rfl:=mj b;rcases t d r with n|n
    ·exact absurd (h.pX i k _ _ d o c n s) m
    ·have:=((h.own k q c).lt d s).2;omega
  ·rw[fG f] at b;by_cases m:i=k
   ·rw[fW m] at c;obtain rfl:=mj c;rcases t d s with n|n
    ·exact absurd (h.pX i a _ _ d o b n r) f
    ·have:=((h.own a p b).lt d r).2;omega
   ·rw[fG m] at c;exact h.pX a k p q d b c r s
theorem fo.at{B:Nat}{w:eI}{L:List (eS×fS)}(h:fo B w L)(i:Nat){v:eS}{xs:fS}(a:L[i]? =some (v,xs)):w.ownsRow B 3 1 v xs (ints xs)/\∃A c,v=.slice A xs c:=⟨h.own i _ a,eR (h.own i _ a)⟩
theorem fo.V6{L:List (eS×fS)}(h:fo n w L)(a:Nat){v:eS}{xs:fe}(b:L[a]? =some (v,eM xs)):w.ownsRow n 3 1 v xs (ints (eM xs))/\∃c d,v=.slice c xs d:=by have:=h.at a b;rwa [fv] at this
theorem fo.push{L:List (eS×fS)}(h:fo n w L)(m:eF w u){v:eS}{xs:fS}(g:u.ownsRow w 3 1 v xs (ints xs))(o:n<=w.heap.size):fo n u (L++[(v,xs)]):=by
 have i:∀b c,(L++[(v,xs)])[b]? =some c->(L[b]? =some c)\/(b=L.length/\c=(v,xs)):=λb c a=>by
  by_cases p:b<L.length
  ·rw[qp p] at a;exact .inl a
  ·have r:=(jS.1 a).1;simp at r;have:b=L.length:=by omega
   subst this;simp at a;exact .inr ⟨rfl,a.symm⟩
 refine⟨λb c a=> ?_,λj b c q d a f k l=> ?_⟩
 ·rcases i b c a with a|⟨_,rfl⟩
  ·exact m.own (h.own b c a)
  ·exact fq g o
 ·rcases i j c a with a|⟨rfl,rfl⟩<;>rcases i b q f with f|⟨rfl,rfl⟩
  ·exact h.pX j b c q d a f k l
  ·have s:=((h.own j c a).lt d k).2;have t:=(g.lt d l).1;omega
  ·have s:=((h.own b q f).lt d l).2;have t:=(g.lt d k).1;omega
  ·rfl
theorem fo.pop{L:List (eS×fS)}{d:eS×fS}(h:fo n w (L++[d])):fo n w L:=
 ⟨λb q a=>h.own b q (by rw[qp (jS.1 a).1];exact a),
  λb f q g i a c j k=>h.pX b f q g i (by rw[qp (jS.1 a).1];exact a) (by rw[qp (jS.1 c).1];exact c) j k⟩
theorem iZ{rest:List Oper}{a:Act}{o:Exit->Act->eI->Prop}(u:kE.guard=none)(k l:Operand)(x:kE.op=.call {callee:=.builtin .append,args:=#[k,l],argTypes:=#[23,23]}){B:Nat}{L:List (eS×fS)}(p:fo B w L)(i:Nat)(v:eS)(xs:fS)(r:L[i]? =some (v,xs))(y:a.eval k=v)(n:fE)(c m:Nat)(f:fS)(z:a.eval l=.slice n m c)(s:f.length=m)(A:Rd w n (ints f))(J:xs.length+m<=1000000)(C:B<=w.heap.size)(h:∀b g,fo B g (L.set i (b,xs++f))->w.grownBy g v.ownBlock->(b.ownBlock=v.ownBlock\/b.ownBlock=some w.heap.size)->wpList prog kG o rest (a.put kE.dst b) g):wpList prog kG o (kE::rest) a w:=by
 obtain⟨D,E,F,G,H⟩:=info_parts lr;refine fB u k l 23 x B 3 D _ 1 8 underlying23 E F G H rfl (by omega) v xs (ints xs) y (p.own i _ r) n c (ints f) m z (by rw[JF,s,qP]) A (jP f) (by unfold maxLen;omega) (by omega) C λb g I t d=>h b g ?_ t d;refine p.put r ?_ t (λK j=> ?_)
 ·rw[mI,fT,s];exact I
 ·rcases d with d|d
  ·exact .inl (d▸j)
  ·rw[d] at j;exact .inr (by injection j with j;omega)
theorem vz(a:eI)(k:Int):Rd (a.alloc (eN #[eE k] 3)) (some (eJ a 0)) (ints [k]):=eQ.rd (eQ.new a 3 _)
theorem xg(p:fE)(n c:Nat)(l:fS)(f:Int)(g:eI)(r:Rd g p (ints l))(x:l.length=n)(F:n<=1000000):
 Calls prog 17 #[.slice p n c,eE f] g λe y=>e=fH (fz (decide (f∈l)))/\g=y:=by
 subst x;have z:=eD r;clear r;go_in;go_wp
 go_loop [5] (λi=>∃a:Nat,a<=l.length/\i=eE a/\∀b,b<a->∀d,l[b]? =some d->d≠f) (λi=>l.length- (intOf i).toNat)
 case atStart=>exact⟨0,eX _,rfl,λb j=>by omega⟩
 case round=>
  obtain⟨a,G,rfl,s⟩:=hrel;have t:=eD s;clear s;by_cases u:a<l.length
  ·obtain⟨A,B,rfl,v⟩:=z a (by simpa[ints] using u);have H:g.cell? ⟨A,B+a,none⟩=some (.int .i64 l[a]):=by rw[v];simp[ints]
   clear v;have w:=eD (gg u);generalize l[a]=d at*;by_cases k:d=f
   ·subst k;have C:(d==d)=true:=Dw _;have m:Hid (decide (d∈l)=true):=eD (by simpa using mp w);go_wp2;go_ret;exact⟨by rw[m];rfl,rfl⟩
   ·have C:=mn.2 k;go_wp
    go_round
    case rel=>exact⟨a+1,by omega,by go_num,λb j D o=>by
     by_cases h:b=a
     ·subst h;rw[w] at o;obtain rfl:=mj o;exact k
     ·exact t b (by omega) D o⟩
    case measure=>simp[intOf];omega
  ·have m:Hid (decide (f∈l)=false):=eD (by simp only[DO];intro E;obtain⟨b,j,rfl⟩:=gN E;exact t b (by omega) _ (gg j) rfl)
   go_wp2;go_ret;exact⟨by rw[m];rfl,rfl⟩
structure mT(w:eI)(T:ik)(A:fE)(xs:fY):Prop where
 rd:Rd w A xs
 ty:xs≠[]->∀b o,A=some (eJ b o)->jT w [T] b
theorem jT.lt{w:eI}{L:mB}{k:Nat}(h:jT w L k):k<w.heap.size:=by
 obtain⟨b,c,d,a,_⟩:=h;rcases m0 k w with h|h
 ·exact h
 ·rw[V5 h] at a;cases a
theorem jT.lS{S:Nat->Prop}{L:mB}(h:jT w L n)(a:fi S w v)(b:¬S n):jT v L n:=by have c:=h.lt;obtain⟨d,f,g,i,j⟩:=h;exact⟨d,f,g,(a.block n c b).trans i,j⟩
theorem mT.nil(w:eI)(a:ik)(A:fE):mT w a A []:=⟨Rd.nil _ _,λh=>absurd rfl h⟩
theorem mT.ext{w w':eI}{A:fE}{xs:fY}(h:mT w f A xs)(a:eF w w'):mT w' f A xs:=⟨a.rd h.rd,λb c d e=>(h.ty b c d e).ext a⟩
theorem mT.lS{S:Nat->Prop}(h:mT w f A l)(d:fi S w v)(g:∀i,jT w [f] i->¬S i):mT v f A l:=by
 by_cases b:l=[]
 ·subst b;exact mT.nil _ _ _
 ·exact⟨d.rd h.rd λa c e=>g a (h.ty b a c e),λ_ a c e=>(h.ty b a c e).lS d (g a (h.ty b a c e))⟩
theorem mT.ch{B:Nat}{L:mB}{M:fe}{w:eI}{A:fE}{xs:fY}(h:mT w f A xs)(b:CH B L M w v)(c:f∉L:=by decide)(hM:∀m∈M,¬jT w [f] m:=by simp):mT v f A xs:=
 h.lS b λd a g=>g.2.elim (λi=>(a.not (L':=L) (by simpa using c)) i) (λj=>hM d j a)
theorem mT.fC{w:eI}{B:Nat}{n c:Nat}{A:fE}{xs:fY}(h:w.ownsRow B f k (.slice A n c) n xs)(b:Rd w A xs):mT w f A xs:=by
 refine⟨b,λg i j e=> ?_⟩;subst e;rcases h.2 with⟨a,_⟩|⟨l,m,o,a,_,d,_⟩
 ·injection a with a;cases a
 ·injection a with a _ _
  simp only[fd,ny] at a;obtain⟨rfl,_⟩:=a;exact⟨_,_,_,d,by simp⟩
def iG(L:List (eS×fS)):fe:=L.filterMap λp=>p.1.ownBlock
theorem jC(a b:List (eS×fS)):iG (a++b)=iG a++iG b:=by simp[iG]
theorem fu{L:List (eS×fS)}{k:Nat}:k∈iG L↔∃p∈L,p.1.ownBlock=some k:=by simp[iG]
theorem fo.nodup:∀{L:List (eS×fS)} {B:Nat} {c:eI},fo B c L->(iG L).Nodup
 |[],_,_,_=>List.nodup_nil
 |p::L,B,c,h=>by
  have i:fo B c L:=⟨λd q a=>h.own (d+1) q (by simpa using a),λd b q j f a k l m=>by have:=h.pX (d+1) (b+1) q j f (by simpa using a) (by simpa using k) l m;omega⟩
  have g:=fo.nodup i;unfold iG at g ⊢;rw[MV];cases n:p.1.ownBlock with
  |none=>exact g
  |some f=>refine ph.2 ⟨λo=> ?_,g⟩;obtain⟨q,a,r⟩:=List.mem_filterMap.1 o;obtain⟨b,s,rfl⟩:=gN a;have:=h.pX 0 (b+1) p L[b] f (by simp) (by simp[gg s]) n r;omega
theorem fo.of{L:List (eS×fS)}{B:Nat}(h:∀p∈L,w.ownsRow B 3 1 p.1 p.2 (ints p.2))(b:(iG L).Nodup):fo B w L:=by
 refine⟨λg p a=>h p (mp a), ?_⟩;intro g;induction L generalizing g with
 |nil=>intro d p q c a;simp at a
 |cons l L m=>
  intro d p q c a f i j;have n:(iG L).Nodup:=by
   unfold iG at b ⊢;rw[MV] at b;split at b
   ·exact b
   ·exact(ph.1 b).2
  have k:∀q∈L,∀c,l.1.ownBlock=some c->q.1.ownBlock≠some c:=by intro q f c o r;unfold iG at b;rw[MV,o] at b;exact(ph.1 b).1 (List.mem_filterMap.2 ⟨q,f,r⟩)
  cases g with
  |zero=>
   cases d with
   |zero=>rfl
   |succ d=>simp only[QP,fd] at a;subst a;exact absurd j (k q (mp (by simpa using f)) c i)
  |succ g=>
   cases d with
   |zero=>simp only[QP,fd] at f;subst f;exact absurd i (k p (mp (by simpa using a)) c j)
   |succ d=>rw[m (λp a=>h p (gD _ a)) n g d p q c (by simpa using a) (by simpa using f) i j]
theorem fo.mem{L:List (eS×fS)}{B:Nat}{w:eI}(h:fo B w L){p:eS×fS}(a:p∈L):w.ownsRow B 3 1 p.1 p.2 (ints p.2):=by obtain⟨b,c,rfl⟩:=gN a;exact h.own b _ (gg c)
theorem fo.iU{L L':List (eS×fS)}{B:Nat}(h:fo B w L)(a:L.Perm L'):fo B w L':=
 .of (λc b=>h.mem (a.mem_iff.2 b)) ((a.filterMap _).nodup_iff.1 h.nodup)
theorem fo.sub{L L':List (eS×fS)}{B:Nat}{w:eI}(h:fo B w L)(a:L'.Sublist L):fo B w L':=
 .of (λc b=>h.mem (a.mem b)) ((a.filterMap _).nodup h.nodup)
theorem fo.mono{L:List (eS×fS)}{B:Nat}{w:eI}(h:fo B w L)(a:n<=B):fo n w L:=⟨λb c d=>fq (h.own b c d) a,h.pX⟩
theorem fo.lS{L:List (eS×fS)}{B:Nat}(h:fo B w L){S:Nat->Prop}(c:fi S w v)(d:∀a∈iG L,¬S a):fo B v L:=
 .of (λf b=>c.own (h.mem b) λa g=>d a (fu.2 ⟨f,b,g⟩)) h.nodup
theorem fo.ch{L:List (eS×fS)}{B B0:Nat}{w:eI}{M:fe}(h:fo B w L)(b:CH B0 kO M w v)(c:3∉kO:=by decide)(hM:∀k∈iG L,k∉M:=by simp):fo B v L:=
 .of (λd a=>b.own (h.mem a) c λk f=>hM k (fu.2 ⟨d,a,f⟩)) h.nodup
theorem fo.add{L N:List (eS×fS)}{B:Nat}{w:eI}(h:fo B w L)(a:eF w v)(k:fo w v N)(b:B<=w.heap.size):fo B v (L++N):=by
 refine .of (λc hm=> ?_) ?_
 ·rcases gu.1 hm with hm|hm
  ·exact a.own (h.mem hm)
  ·exact fq (k.mem hm) b
 ·rw[jC];refine kF.2 ⟨h.nodup,k.nodup,λd f g i e=> ?_⟩;obtain⟨c,j,l⟩:=fu.1 f;obtain⟨q,m,n⟩:=fu.1 i;have o:=((h.mem j).lt d l).2;have p:=((k.mem m).lt g n).1;omega
theorem fo.lt{L:List (eS×fS)}{B:Nat}{w:eI}(h:fo B w L){k:Nat}(a:k∈iG L):B<=k/\k<w.heap.size:=by obtain⟨c,b,e⟩:=fu.1 a;exact(h.mem b).lt k e
theorem fo.swap{a b:List (eS×fS)}{v v':eS}{xs xs':fS}(h:fo n w (a++(v,xs)::b))(c:u.ownsRow n 3 1 v' xs' (ints xs'))(d:w.grownBy u v.ownBlock)(f:∀k,v'.ownBlock=some k->v.ownBlock=some k\/w.heap.size<=k):fo n u (a++(v',xs')::b):=by have:=h.put (i:=a.length) (v:=v) (xs:=xs) (by simp) c d f;rwa [yj _ _ (fJ _),qW,AJ] at this
end
namespace Pl
def mN:gh->Nat
 |[]=>0
 |b::r=>b.toNat+256*mN r
theorem yq:∀c:gh,mN c<2^(8*c.length)
 |[]=>by simp[mN]
 |a::b=>by
  have f:=yq b;have g:a.toNat<256:=a.toNat_lt;have d:2^(8*(a::b).length)=256*2^(8*b.length):=by rw[iw,Io,D5,Nat.pow_add]
  rw[d];unfold mN;omega
theorem tI:∀(b:gh) (a:UInt8),mN (b++[a])=mN b+a.toNat*2^(8*b.length)
 |[],a=>by simp[mN]
 |d::c,a=>by
  have f:=tI c a;have g:2^(8*(d::c).length)=256*2^(8*c.length):=by rw[iw,Io,D5,Nat.pow_add]
  rw[g];simp only[nO,mN,f];rw[Nat.mul_add,qX,Nat.mul_left_comm a.toNat]
def i64(n:Nat):Int:=IntKind.i64.wrap (n:Int)
theorem uC(a:Int):BitVec.ofInt 64 (IntKind.i64.wrap a)=BitVec.ofInt 64 a:=by
 apply BitVec.eq_of_toNat_eq;rw[BitVec.toNat_ofInt,BitVec.toNat_ofInt];congr 1
 rw[S2];omega
theorem QQ(c a b:Nat)(j:b<=7)(d:c<2^(8*b))(k:a<256):
 IntKind.i64.wrap (((BitVec.ofInt 64 (i64 c))|||(BitVec.ofInt 64 (IntKind.i64.wrap ((a:Int)*2^(8*b))))).toNat:Int)=i64 (c+a*2^(8*b)):=by
 unfold i64;rw[uC,uC];have f:(a:Int)*2^(8*b)=((a*2^(8*b):Nat):Int):=by push_cast;rfl
 rw[f,Qk,Qk,BitVec.toNat_or,Ql,Ql];have g:2^(8*b)<=2^56:=wG (by omega) (by omega);have i:a*2^(8*b)<2^64:=by have:a*2^(8*b)<=255*2^56:=Nat.mul_le_mul (by omega) g;omega
 rw[ww (by omega),ww i];have:=Nat.two_pow_add_eq_or_of_lt d a;rw[Nat.or_comm,Nat.mul_comm a,<-this,D5]
def lQ(st:WS)(n:Nat):gh×WS:=if st.1=0 then(if n<=st.2.length then(st.2.take n,(0,st.2.drop n)) else([],(11,st.2))) else([],st)
def lU(size:Int)(st:WS):Int×WS:=if iS size then(i64 (mN (lQ st size.toNat).1),(lQ st size.toNat).2) else(0,iX st 1)
def od(z most:Nat)(st:WS):gh×WS:=
 let r:=lU z st
 let s2:=if r.1<=most then r.2 else iX r.2 2
 let c:=lQ s2 r.1.toNat
 (c.1,if c.2.1=0 then c.2 else(c.2.1,st.2))
def MW(st:WS):Int:=if st.1=0/\st.2≠[] then 12 else st.1
end Pl
namespace Pl
theorem JT(b a:Int)(d:0<a):b%(a*256)=b%a+(b/a%256)*a:=by
 have f:=Us b a;have g:=Us (b/a) 256;have k:=Qs b (show a≠0 by omega);have l:=Qt b d;have i:=Qs (b/a) (show(256:Int)≠0 by omega);have m:=Qt (b/a) (show(0:Int)<256 by omega);generalize b/a%256=c at*;generalize b/a/256=q at*;have j:b=(b%a+c*a)+(a*256)*q:=by
  calc b=a*(b/a)+b%a:=f.symm
   _=a*(256*q+c)+b%a:=by rw[g]
   _=(b%a+c*a)+(a*256)*q:=by rw[Int.mul_add,Int.mul_comm c a,Int.mul_assoc];omega
 have n:0<=c*a:=Int.mul_nonneg i (by omega);have o:c*a<=255*a:=Int.mul_le_mul_of_nonneg_right (by omega) (by omega);calc b%(a*256)=((b%a+c*a)+(a*256)*q)%(a*256):=by rw[<-j]
  _=(b%a+c*a)%(a*256):=Int.add_mul_emod_self_left _ _ _
  _=b%a+c*a:=Int.emod_eq_of_lt (by omega) (by omega)
theorem Gs(a:Nat)(b:Int):(mN (fD a b):Int)=b%2^(8*a):=by
 induction a with
 |zero=>simp[fD,mN]
 |succ a c=>
  rw[Au,tI,iB];have d:(0:Int)<2^(8*a):=Int.pow_pos (by omega);have f:(2:Int)^(8*(a+1))=2^(8*a)*256:=by rw[Io,Int.pow_add];rfl
  rw[f,JT b _ d,Int.natCast_add,c,Int.natCast_mul];congr 2
  ·unfold Qr;have g:0<=b/2^(8*a)%256:=Qs _ (by omega);have i:b/2^(8*a)%256<256:=Qt _ (by omega);rw[HU,ww (by omega)];omega
theorem MX(a:Nat)(b:Int)(d:iS a=true)(c:iu b a=true)(f: -9223372036854775808<=b/\b<=9223372036854775807):i64 (mN (fD a b))=b:=by
 unfold i64;rw[Gs,S2];rcases jB d with h|h|h|h
 ·obtain rfl:a=1:=by omega
  simp[iu] at c;rw[show(2:Int)^(8*1)=256 from rfl];omega
 ·obtain rfl:a=2:=by omega
  simp[iu] at c;rw[show(2:Int)^(8*2)=65536 from rfl];omega
 ·obtain rfl:a=4:=by omega
  simp[iu] at c;rw[show(2:Int)^(8*4)=4294967296 from rfl];omega
 ·obtain rfl:a=8:=by omega
  rw[show(2:Int)^(8*8)=18446744073709551616 from rfl];omega
theorem vC(a:Nat)(b:Int)(c:gh)(d:iS a=true)(f:iu b a=true)(g: -9223372036854775808<=b/\b<=9223372036854775807):lU a (0,fD a b++c)=(b,(0,c)):=by
 have i:lQ (0,fD a b++c) a=(fD a b,(0,c)):=by have j:=iB a b;simp[lQ,j]
 unfold lU;rw[d,uv,i];simp only[nV];rw[MX a b d f g]
end Pl
namespace Pl
def kL(z:Nat)(ns:fS):gh:=ns.flatMap (fD z)
def MY(ss:List gh):gh:=ss.flatMap λs=>fD 2 s.length++s
theorem Ip(c:Nat)(f:iS c=true)(a:gh):∀(b:fS) (a:gh),(∀d∈b,iu d c=true)->ma c (0,a) b=(0,a++kL c b):=by
 have pQ:∀(b:fS) (a:gh),(∀d∈b,iu d c=true)->b.foldl (ln c) (0,a)=(0,a++kL c b):=by
  intro b;induction b with
  |nil=>intro a _;simp[kL]
  |cons d k g=>
   intro a h;have i:ln c (0,a) d=(0,a++fD c d):=by unfold ln;simp[h d (by simp)]
   rw[nK,i,g _ (λd j=>h d (by simp[j]))];simp[kL]
 intro b a h;unfold ma;rw[f];exact pQ b a h
theorem D7:∀(c:List gh) (b:gh),(∀a∈c,a.length<=4096)->oQ (0,b) c=(0,b++MY c)
 |[],b,_=>by simp[oQ,MY]
 |a::d,b,h=>by
  have f:nM (0,b) a=(0,b++(fD 2 a.length++a)):=by unfold nM;simp[h a (by simp)]
  have e:oQ (0,b) (a::d)=oQ (nM (0,b) a) d:=rfl;rw[e,f,D7 d _ (λa g=>h a (by simp[g]))];simp[MY]
theorem JU(a b:gh)(h:a.length<=1048576):tE (0,b) a=(0,b++(fD 4 a.length++a)):=by unfold tE;simp[h]
theorem iP(a:0<=D)(b:D<2^(8*n)):iu D n=true:=by
 unfold iu;have:(8*(n:Int)).toNat=8*n:=by omega
 simp[a,this,b]
theorem AQ(a:Int):iu a 8=true:=by simp[iu]
theorem MZ(a b:gh)(h:a.length<=4096):od 2 4096 (0,fD 2 a.length++a++b)=(a,(0,b)):=by
 have c:lU 2 (0,fD 2 a.length++(a++b))=((a.length:Int),(0,a++b)):=vC 2 a.length (a++b) rfl (iP (by omega) (by simp;omega)) (by omega);rw[iK];unfold od;simp only[show((2:Nat):Int)=2 from rfl,c];have d:((a.length:Int)<=((4096:Nat):Int)):=by omega
 rw[fW d];simp[lQ]
theorem JV(a b:gh)(h:a.length<=1048576):od 4 1048576 (0,fD 4 a.length++a++b)=(a,(0,b)):=by
 have c:lU 4 (0,fD 4 a.length++(a++b))=((a.length:Int),(0,a++b)):=vC 4 a.length (a++b) rfl (iP (by omega) (by simp;omega)) (by omega);rw[iK];unfold od;simp only[show((4:Nat):Int)=4 from rfl,c];have d:((a.length:Int)<=((1048576:Nat):Int)):=by omega
 rw[fW d];simp[lQ]
theorem AR(a:Nat)(b:Int)(c:fS):kL a (b::c)=fD a b++kL a c:=by simp[kL]
theorem M0(a:gh)(b:List gh):MY (a::b)=fD 2 a.length++a++MY b:=by simp[MY]
end Pl
end
section
open Go.RowKit Pl
structure lu where
 name:gh
 gB:Int
 gC:gh
 ft:List gh
 gy:List iV
 inits:fS
 gJ:fS
def lu.mU(s:lu):List fS:=tK s.gy (rB (gK s.gy).length) (gK s.gy)
def lu.gv(s:lu):fe:=pG s.gy (gK s.gy)
def sP(s:gh):gh:=fD 2 s.length++s
def Ea(b:Bool):Int:=if b then 1 else 0
def mq(n:gh):gh:=sP n++fD 1 0
def rK(s:iV):gh:=sP s.name.data.toList++(sP s.B3.data.toList++(fD 1 s.kind++(fD 1 s.sW++(fD 1 (Ea s.vd)++(fD 1 (Ea s.SZ)++(fD 1 (Ea s.Jm)++(fD 8 s.val++fD 8 s.size)))))))
def It(b:fS):gh:=fD 2 b.length++kL 2 b
def rL:gh:=[99,108,101,118,105,115,49]
def lu.tail(s:lu):gh:=fD 1 6++(fD 1 s.gv.length++(kL 8 (eM s.gv)++(fD 2 0++(fD 2 0++(fD 1 s.inits.length++(kL 4 s.inits++(fD 1 s.gJ.length++(kL 4 s.gJ++(fD 2 0++fD 4 0)))))))))
def lu.enc(s:lu):gh:=sP rL++(sP s.name++(fD 1 s.gB++(fD 1 1++(fD 4 0++(fD 4 s.gC.length++(fD 1 5++((fD 4 s.gC.length++s.gC)++(fD 1 s.ft.length++(s.ft.flatMap mq++
 (fD 1 0++(fD 2 s.gy.length++(s.gy.flatMap rK++(fD 2 s.mU.length++(s.mU.flatMap It++s.tail))))))))))))))
structure lu.Ok(s:lu):Prop where
 name:s.name=[]\/(tY s.name/\1<=s.name.length/\s.name.length<=64)
 gB:s.gB=0\/s.gB=1
 QS:1<=s.gC.length
 QT:s.gC.length<=64
 h':s.ft.length<=8
 eP:∀n∈s.ft,1<=n.length/\n.length<=64
 gy:s.gy.length<=2
 sym:∀x∈s.gy,∃l sW v z,x=gR l sW true v z/\tY l/\1<=l.length/\l.length<=64/\(sW=0\/sW=2)/\0<=v/\0<=z/\v+z<=s.gC.length
 JZ:(s.gy.map iV.name).Nodup
 rM:s.inits.length<=1
 yv:s.gJ.length<=1
 inits:∀x∈s.inits,0<=x/\x+8<=s.gC.length
 gJ:∀x∈s.gJ,0<=x/\x+8<=s.gC.length
def Sg(n:Int):gh:=if 0<=n then[UInt8.ofNat n.toNat,0,0,0] else[UInt8.ofNat (256+n).toNat,255,255,255]
structure Ins where
 op:Int
 a:Int
 n:Int
def Ins.eL(i:Ins):fY:=[eE i.op,eE i.a,eE 0,eE 0,eE i.n]
def Ins.B(i:Ins):gh:=[UInt8.ofNat i.op.toNat,UInt8.ofNat i.a.toNat,0,0]++Sg i.n
inductive Ins.Ok:Ins->Prop
 |M8 (n:Int) (h: -100<=n/\n<=100):Ins.Ok ⟨1,1,n⟩
 |out:Ins.Ok ⟨19,1,0⟩
 |ret:Ins.Ok ⟨18,0,0⟩
def rN(n:Int):List Ins:=[⟨1,1,n⟩,⟨19,1,0⟩,⟨18,0,0⟩]
def j8(l:List Ins):gh:=l.flatMap Ins.B
theorem M9(a:Int)(h: -100<=a/\a<=100):∀b∈rN a,b.Ok:=by
 intro b c;simp only[rN,fm,gp,gq] at c;rcases c with rfl|rfl|rfl
 ·exact .M8 a h
 ·exact .out
 ·exact .ret
theorem lV(a:Ins):a.B.length=8:=by unfold Ins.B Sg;split<;>rfl
theorem na:∀a:List Ins,(j8 a).length=a.length*8
 |[]=>rfl
 |b::a=>by have h:=na a;unfold j8 at h ⊢;rw[oz,fT,h,lV,iw];omega
def nB(k:Nat):gh:=[108,97,UInt8.ofNat (97+k)]
theorem xj{a:Nat}(h:a<=12):tY (nB a):=by
 intro c b;simp only[nB,fm,gp,gq] at b;rcases b with rfl|rfl|rfl
 ·decide
 ·decide
 ·have:(97+a)%256=97+a:=by omega
  simp only[HU,Nat.reducePow,this];omega
theorem Iu{a b:Nat}(c:a<=12)(d:b<=12)(h:nB a=nB b):a=b:=by simp only[nB,zK,gP,ky] at h;have:=congrArg UInt8.toNat h;simp only[HU,Nat.reducePow] at this;omega
def lz(k:Nat)(eP:fe):lu:=⟨nB k,0,j8 (rN k++rN (-(k:Int))),eP.map nB,[gR [105] 2 true 0 24,gR [101] 2 true 24 24],[0],[24]⟩
def jp:lu:=⟨[],1,j8 (rN 9),[],[gR [102] 0 true 0 24],[],[]⟩
def ii(G:Nat->fe)(k:Nat):lu:=if k=0 then jp else lz k (G k)
theorem Iv(f:Nat)(c:fe)(i:f<=12)(d:c.length<=8)(h:∀b∈c,b<=12):(lz f c).Ok:=by
 have g:(lz f c).gC.length=48:=by simp[lz,na,rN]
 refine⟨.inr ⟨xj i,by simp[lz,nB],by simp[lz,nB]⟩,.inl rfl,by omega,by omega,by simpa[lz] using d, ?_,by simp[lz], ?_,by simp[lz,gR,fI],by simp[lz],by simp[lz], ?_, ?_⟩
 ·intro j d;simp only[lz,fy] at d;obtain⟨b,_,rfl⟩:=d;simp[nB]
 ·intro b a;rw[g];simp only[lz,fm,gp,gq] at a;rcases a with rfl|rfl
  ·exact⟨_,_,_,_,rfl,by unfold tY;decide,by decide,by decide,.inr rfl,by decide,by decide,by decide⟩
  ·exact⟨_,_,_,_,rfl,by unfold tY;decide,by decide,by decide,.inr rfl,by decide,by decide,by decide⟩
 ·intro b a;rw[g];simp only[lz,fm,gp,gq] at a;subst a;decide
 ·intro b a;rw[g];simp only[lz,fm,gp,gq] at a;subst a;decide
theorem Eb:jp.Ok:=by
 have b:jp.gC.length=24:=by simp[jp,na,rN]
 refine⟨.inl rfl,.inr rfl,by omega,by omega,by simp[jp],by simp[jp],by simp[jp], ?_,by simp[jp],by simp[jp],by simp[jp],by simp[jp],by simp[jp]⟩;intro c a;rw[b];simp only[jp,fm,gp,gq] at a;subst a;exact⟨_,_,_,_,rfl,by unfold tY;decide,by decide,by decide,.inl rfl,by decide,by decide,by decide⟩
end
section
variable{w v u:eI}{n k m i j p b c d g B K G:Nat}{x y z:eS}{D E F:Int}{A C H I:fE}{l J:fY}{r s t:fe}{f:ik}{a:Act}{kB:List (eS×fS)}{kE:Oper}{kG:Array Oper}{kK:DataW eS}{kM:fS}{kO:mB}
section
open Go.RowKit Go.Maps
def mr(n:gh):fY:=[eV (fI n),eW]
structure Gw(w:eI)(m:Im)(s:lu):Prop where
 name:m.c0=fI s.name
 gB:m.c1=s.gB
 n2:m.c2.n=1
 FY:∃BA bc,mT w 255 m.c2.A [eE 0,eE s.gC.length,.slice BA s.gC bc,eE 5]
 n3:m.c3.n=s.ft.length
 h':mT w 130 m.c3.A (fO mr s.ft)
 z4:m.c4.n=0
 z9:m.c9.n=0
 Sk:m.rh.n=0
 pI:m.C9.n=0
 UA:m.T'=0
 n11:m.pU.n=s.inits.length
 n12:m.pV.n=s.gJ.length
 ok:s.Ok
 a4:m.c4.A=none
theorem Gw.lS{S:Nat->Prop}{b:Im}{c:lu}(h:Gw w b c)(d:fi S w v)(f:∀a,jT w [255] a->¬S a)(g:∀a,jT w [130] a->¬S a):Gw v b c:=by obtain⟨i,j,k,⟨l,m,n⟩,o,p,r,s,t,u,x,y,z,A,B⟩:=h;exact⟨i,j,k,⟨l,m,n.lS d f⟩,o,p.lS d g,r,s,t,u,x,y,z,A,B⟩
theorem Gw.ext{w w':eI}{m:Im}{s:lu}(h:Gw w m s)(a:eF w w'):Gw w' m s:=h.lS (S:=λ_=>False) (fi.fg a) (λ_ _=>id) (λ_ _=>id)
theorem Gw.ch{B:Nat}{L:mB}{M:fe}{w:eI}{m:Im}{s:lu}(h:Gw w m s)(g:CH B L M w v)(i:255∉L)(j:130∉L)(hM:∀m∈M,∀k,¬jT w k m):Gw v m s:=
 h.lS g (λb a c=>c.2.elim (λd=>a.not (L':=L) (by simpa using i) d) (λf=>hM b f _ a)) (λb a c=>c.2.elim (λd=>a.not (L':=L) (by simpa using j) d) (λf=>hM b f _ a))
theorem Gw.Td{c:Im}{d:lu}(h:Gw w c d):∃a b,nN w c a b d.gC:=by obtain⟨a,b,f⟩:=h.FY;exact⟨a,b,h.n2,f.rd,h.ok.QS,h.ok.QT⟩
structure Gx(w:eI)(m:Im)(s:lu):Prop extends Gw w m s where
 zM:∃BA bc,yh w m BA bc s.gC
 l:m.l=s.gy
 sy:zD w m.SA s.gy
 Vq:m.t.In w
 mU:m.t.bs.map Bk.is=s.mU
 gv:m.t.ws=s.gv
 shift:m.t.sh=6
 rM:Rd w m.pU.A (ints s.inits)
 yv:Rd w m.pV.A (ints s.gJ)
theorem Gx.ext{w w':eI}{m:Im}{s:lu}(h:Gx w m s)(a:eF w w'):Gx w' m s:=by obtain⟨b,c,d⟩:=h.zM;exact⟨h.toGw.ext a,⟨b,c,d.ext a⟩,h.l,zD.ext h.sy a,h.Vq.ext a,h.mU,h.gv,h.shift,a.rd h.rM,a.rd h.yv⟩
def oX(m:Im)(s:lu):List (eS×fS):=(.slice m.pU.A m.pU.n m.pU.c,s.inits)::(.slice m.pV.A m.pV.n m.pV.c,s.gJ)::m.t.bs.map λb=>(b.cell,b.is)
def lW(m:Im)(s:lu)(ex:List (eS×fS)):Prop:=∀q∈oX m s,q∈ex
theorem lW.mono{m:Im}{s:lu}{ex':List (eS×fS)}(h:lW m s kB)(a:∀p∈kB,p∈ex'):lW m s ex':=λq b=>a q (h q b)
theorem lW.rM{a:Im}{b:lu}(h:lW a b kB):(Value.slice a.pU.A a.pU.n a.pU.c,b.inits)∈kB:=h _ (gM ..)
theorem lW.yv{a:Im}{b:lu}(h:lW a b kB):(Value.slice a.pV.A a.pV.n a.pV.c,b.gJ)∈kB:=h _ (gD _ (gM ..))
structure LW(w:eI)(m:Im)(s:lu):Prop where
 l:m.l=s.gy
 sy:mT w 118 m.SA (fO iV.eL s.gy)
 bk:mT w 23 m.t.BA (m.t.bs.map Bk.cell)
 mU:m.t.bs.map Bk.is=s.mU
 wd:mT w 270 m.t.WA (kq s.gv)
 gv:m.t.ws=s.gv
 shift:m.t.sh=6
theorem LW.ext{w w':eI}{m:Im}{s:lu}(h:LW w m s)(a:eF w w'):LW w' m s:={h with sy:=h.sy.ext a,bk:=h.bk.ext a,wd:=h.wd.ext a}
theorem LW.ch{B:Nat}{L:mB}{w:eI}{m:Im}{s:lu}(h:LW w m s)(a:CH B L [] w v)(b:118∉L)(c:23∉L)(d:270∉L):LW v m s:=
 {h with sy:=h.sy.ch a b (by simp),bk:=h.bk.ch a c (by simp),wd:=h.wd.ch a d (by simp)}
def qK(k:Nat):List gh:=if k=0 then[[112]] else[[108,105,98],nB k]
def jk(k:Nat):gh:=ff (qK k)
def oB(k:Nat):Int:=(k:Int)+1
structure OV where
 id:Nat
 fQ:Nat
 im:Im
 base:Int
 lh:Bool
 keep:Bool
 nA:fE
 nc:Nat
 eP:fe
 gA:fE
 gc:Nat
 group:fe
 gE:Nat
 bA:fE
 bc:Nat
def OV.eL(o:OV):fY:=[eE (o.id:Nat),eV (fI (jk o.fQ)),eE (oB o.fQ),
 eV o.im.c0,eE o.im.c1,.slice o.im.c2.A o.im.c2.n o.im.c2.c,.slice o.im.c3.A o.im.c3.n o.im.c3.c,.slice o.im.c4.A o.im.c4.n o.im.c4.c,.slice o.im.SA o.im.l o.im.sc,.slice o.im.t.BA o.im.t.bs o.im.t.bc,.slice o.im.t.WA o.im.t.ws o.im.t.wc,eE o.im.t.sh,.slice o.im.c9.A o.im.c9.n o.im.c9.c,.slice o.im.rh.A o.im.rh.n o.im.rh.c,.slice o.im.pU.A o.im.pU.n o.im.pU.c,.slice o.im.pV.A o.im.pV.n o.im.pV.c,.slice o.im.C9.A o.im.C9.n o.im.C9.c,eE o.im.T',
 eE o.base,eE 0,fz o.lh,fz o.keep,.slice o.nA o.eP o.nc,eW,.slice o.gA o.group o.gc,eE (o.gE:Nat),.slice o.bA 0 o.bc]
theorem gx(a:OV):a.eL.length=27:=rfl
theorem j4(c:OV):∀a∈c.eL,a.oneCell'=true:=by intro a b;simp only[OV.eL,fm,gp,gq] at b;rcases b with rfl|rfl|rfl|rfl|rfl|rfl|rfl|rfl|rfl|rfl|rfl|rfl|rfl|rfl|rfl|rfl|rfl|rfl|rfl|rfl|rfl|rfl|rfl|rfl|rfl|rfl|rfl<;>rfl
abbrev la(os:List OV):fY:=fO OV.eL os
def OV.nf(o:OV):eS×fS:=(.slice o.nA o.eP o.nc,eM o.eP)
def OV.m6(o:OV):eS×fS:=(.slice o.gA o.group o.gc,eM o.group)
def OV.rows(o:OV):List (eS×fS):=[o.nf,o.m6]
def OV.ob(o:OV):Ob:=⟨o.id,o.fQ,o.eP,o.gE,o.keep⟩
structure TL where
 m1:Nat
 m2:Nat
 m3:Nat
 iQ:List (Int×Int×Nat)
def Vr(t:Int×Int×Nat):eS:=fV #[eE t.2.1,.map (some t.2.2)]
def Cj(l:List (Int×Int×Nat)):DataW eS:=l.foldl (λD t=>D.put (.int .i64 t.1) (.held (Vr t))) (.map [])
structure Eg(w:eI)(B p:Nat)(t:TL):Prop where
 eH:eQ w p 193 #[.map (some t.m1),.map (some t.m2),.map (some t.m3),fz (!t.iQ.isEmpty),eE 0]
 low:B<=p
 Eh:B<=t.m1
 Ei:B<=t.m2
 Ck:B<=t.m3
 rS:w.ownsMap prog 3 rV t.m1 0 (.map [])
 tM:w.ownsMap prog 3 rV t.m2 0 (.map [])
 rj:w.ownsMap prog 3 rV t.m3 t.iQ (Cj t.iQ)
 pJ:∀x∈t.iQ,B<=x.2.2/\w.ownsMap prog 3 rV x.2.2 0 (.map [])
theorem Eg.ext{w w':eI}{B p:Nat}{b:TL}(h:Eg w B p b)(c:eF w w'):Eg w' B p b:=by have a:CH 0 [] [] w w':=CH.fg c;exact⟨c.eH h.eH,h.low,h.Eh,h.Ei,h.Ck,a.map h.rS (by simp),a.map h.tM (by simp),a.map h.rj (by simp),λd f=>⟨(h.pJ d f).1,a.map (h.pJ d f).2 (by simp)⟩⟩
theorem Eg.ch{w:eI}{B B0 p:Nat}{t:TL}{L:mB}(h:Eg w B p t)(a:CH B0 L [] w v)(d:193∉L:=by decide):Eg v B p t:=
 ⟨a.eH h.eH d (by simp),h.low,h.Eh,h.Ei,h.Ck,a.map h.rS (by simp),a.map h.tM (by simp),a.map h.rj (by simp),λb c=>⟨(h.pJ b c).1,a.map (h.pJ b c).2 (by simp)⟩⟩
theorem kg.ch{w:eI}{B B0 p b n:Nat}{D:DataW eS}{last:Int}{L:mB}(h:kg w B p b n D last)(a:CH B0 L [] w v)(c:206∉L:=by decide):kg v B p b n D last:=
 ⟨a.eH h.eH c (by simp),h.low,h.yn,a.map h.map (by simp),h.iO⟩
structure LS where
 sp:Nat
 rs:List Rg
 rv:eS
 tp:Nat
 tl:TL
 fp:Nat
 fb:Nat
 fn:Nat
 D:DataW eS
 fl:Int
 oA:fE
 oc:Nat
 os:List OV
 sA:fE
 sc:Nat
 scope:fe
 last:Nat
 inits:Nat
 lA:fE
 lc:Nat
 gF:fe
def LS.cells(s:LS):kx:=#[fw s.sp,fw s.tp,fw s.fp,eW,eW,fz false,.slice s.oA s.os s.oc,.slice s.sA s.scope s.sc,eE (s.last:Nat),eE (s.inits:Nat),.slice s.lA s.gF s.lc]
def LS.mz(s:LS):eS×fS:=(.slice s.sA s.scope s.sc,eM s.scope)
def LS.nD(s:LS):eS×fS:=(.slice s.lA s.gF s.lc,eM s.gF)
def LS.rows(s:LS):List (eS×fS):=s.mz::s.nD::s.os.flatMap OV.rows
def LS.gd(s:LS):List Ob:=s.os.map OV.ob
structure it(w:eI)(B p:Nat)(s:LS)(ex:List (eS×fS)):Prop where
 eH:eQ w p 97 s.cells
 low:B<=p
 vH:j' w B s.sp s.rs s.rv
 rT:Eg w B s.tp s.tl
 qb:kg w B s.fp s.fb s.fn s.D s.fl
 row:w.ownsRow B 177 27 (.slice s.oA s.os s.oc) s.os (la s.os)
 ints:fo 0 w (s.rows++ex)
 ku:∀k∈iG s.rows,B<=k
theorem it.ext{w w':eI}{B p:Nat}{s:LS}(h:it w B p s kB)(a:eF w w'):it w' B p s kB:=
 ⟨a.eH h.eH,h.low,h.vH.ext a,h.rT.ext a,h.qb.ext a,a.own h.row,h.ints.ext a,h.ku⟩
structure kW(G:Nat->fe)(rs:List Rg)(os:List OV)(stk:fS):Prop where
 wf:sB rs
 each:∀o∈os,∃r∈rs,r.at_=o.base/\r.iU=5/\r.bs=(ii G o.fQ).gC++iF (64- (ii G o.fQ).gC.length)
 yD:(os.map OV.base).Nodup
 sum:(rs.map λr=>r.bs.length).sum<=64*os.length+1344*min stk.length 2
 len:rs.length<=os.length+3*min stk.length 2
 uG:∀r∈rs,r.iU=0\/r.iU=3\/r.iU=5
 stack:∀a∈stk,∃r∈rs,r.at_=a/\r.bs.length=1024/\r.iU=3
structure uH(G:Nat->fe)(N:Nat)(D:DataW eS):Prop where
 VH:∀k,k<=N->Way D (qK k)
 at_:∀k,k<=N->At D (.string (jk k)) (jj 1 (oB k) (fI (ii G k).enc) ByteArray.empty)
structure Cl(w:eI)(G:Nat->fe)(N:Nat)(last:Nat)(ex:List (eS×fS))(o:OV):Prop where
 fQ:o.fQ<=N
 im:Gw w o.im (ii G o.fQ)
 tZ:o.fQ=0->LW w o.im (ii G o.fQ)
 rows:lW o.im (ii G o.fQ) ex
 id:0<o.id/\o.id<=last
 iO:o.eP.length<=8
 ms:o.group.length<=20
structure gG(w:eI)(G:Nat->fe)(N:Nat)(B p:Nat)(s:LS)(ex:List (eS×fS))(stk:fS):Prop where
 mem:it w B p s ex
 each:∀o∈s.os,Cl w G N s.last ex o
 rg:kW G s.rs s.os stk
 fs:uH G N s.D
 ids:(s.gd.map Ob.id).Nodup
 qy:(s.gd.map Ob.fQ).Nodup
 up:∀n,∀k∈G n,n<k/\k<=N
 n12:N<=12
 g8:∀n,(G n).length<=8
 yE:s.last<=10000
 uI:s.inits<=10000
 LX:s.scope.Nodup
 J6:∀x∈s.scope,∃o∈s.os,o.id=x/\o.lh=true
 Gy:∀o∈s.os,∀x∈o.eP,∃q∈s.os,q.id=x
 Nf:s.gF.length<=20
 iQ:s.tl.iQ.length<=1
theorem Cl.ext{w w':eI}{G:Nat->fe}{N:Nat}{o:OV}(h:Cl w G N n kB o)(a:eF w w'):Cl w' G N n kB o:=⟨h.fQ,h.im.ext a,λb=>(h.tZ b).ext a,h.rows,h.id,h.iO,h.ms⟩
theorem gG.ext{w w':eI}{G:Nat->fe}{N B p:Nat}{s:LS}(h:gG w G N B p s kB kM)(a:eF w w'):gG w' G N B p s kB kM:=
 {h with mem:=h.mem.ext a,each:=λb c=>(h.each b c).ext a}
theorem it.at{w:eI}{B p:Nat}{s:LS}(h:it w B p s kB){i:Nat}(d:i<s.os.length):∃g,s.oA=some (eJ g 0)/\g<w.heap.size/\B<=g/\∀(j:Nat) (v:eS),(OV.eL s.os[i])[j]? =some v->w.cell? (eJ g (i*27+j))=some v:=by
 obtain⟨g,n,f,k,l,_,_⟩:=jI h.row (by omega);injection f with a _ _
 have b:=h.row;rw[a] at b;refine⟨g,a,l,k,λj v c=> ?_⟩;have m:j<27:=by have:=(jS.1 c).1;rwa [gx] at this
 exact us gx b rfl d m c
end
section
open Go.RowKit Pl
structure xa where
 name:gh
 sW:Int
 n:Int
 A:fE
 c:Nat
def lL(i:Ins):fY:=[eE 0,eE i.op,eE i.a,eE 0,eE 0,eE i.n,eE 0,eV ⟨#[]⟩,eV ⟨#[]⟩]
theorem vI(a:Ins):(lL a).length=9:=rfl
def xa.eL(f:xa):fY:=[eV (fI f.name),eV ⟨#[]⟩,fz false,eE 1,fz false,eE f.sW,fz false,eE 0,eE 0,.slice f.A 3 f.c]
theorem uJ(a:xa):a.eL.length=10:=rfl
structure lM where
 name:gh
 gB:Int
 NA:fE
 nc:Nat
 ft:List gh
 FA:fE
 fc:Nat
 fs:List xa
 IA:fE
 ic:Nat
 inits:List gh
 EA:fE
 ec:Nat
 gJ:List gh
def lM.eL(x:lM):fY:=[eV (fI x.name),eE x.gB,.slice x.NA x.ft x.nc,eW,.slice x.FA x.fs x.fc,eW,eW,.slice x.IA x.inits x.ic,.slice x.EA x.gJ x.ec]
theorem Iz(a:lM):a.eL.length=9:=rfl
theorem QX(c:lM):∀a∈c.eL,a.oneCell'=true:=by intro a b;simp only[lM.eL,fm,gp,gq] at b;rcases b with rfl|rfl|rfl|rfl|rfl|rfl|rfl|rfl|rfl<;>rfl
structure oC(w:eI)(x:lM):Prop where
 h':mT w 130 x.NA (fO mr x.ft)
 Ej:mT w 127 x.FA (fO xa.eL x.fs)
 AX:∀f∈x.fs,mT w 124 f.A (fO lL (rN f.n))
 rM:mT w 9 x.IA (iy x.inits)
 yv:mT w 9 x.EA (iy x.gJ)
theorem oC.ext{w w':eI}{x:lM}(h:oC w x)(a:eF w w'):oC w' x:=⟨h.h'.ext a,h.Ej.ext a,λb c=>(h.AX b c).ext a,h.rM.ext a,h.yv.ext a⟩
theorem oC.ch{B:Nat}{L:mB}{w:eI}{x:lM}(h:oC w x)(a:CH B L [] w v)(c:130∉L)(d:127∉L)(f:124∉L)(b:9∉L):oC v x:=
 ⟨h.h'.ch a c (by simp),h.Ej.ch a d (by simp),λg i=>(h.AX g i).ch a f (by simp),h.rM.ch a b (by simp),h.yv.ch a b (by simp)⟩
structure Cm(x:lM)(s:lu):Prop where
 name:x.name=s.name
 gB:x.gB=s.gB
 ft:x.ft=s.ft
 gC:s.gC=j8 (x.fs.flatMap λf=>rN f.n)
 gy:s.gy=(List.range x.fs).map λi=>match x.fs[i]? with|some f=>gR f.name f.sW true (24*i) 24|none=>gR [] 0 true 0 0
 inits:(x.inits=[]/\s.inits=[])\/∃i f,x.fs[i]? =some f/\x.inits=[f.name]/\s.inits=[((24*i:Nat):Int)]
 gJ:(x.gJ=[]/\s.gJ=[])\/∃i f,x.fs[i]? =some f/\x.gJ=[f.name]/\s.gJ=[((24*i:Nat):Int)]
 iO:1<=x.fs.length/\x.fs.length<=2
 low:∀f∈x.fs,tY f.name/\1<=f.name.length/\f.name.length<=64/\(f.sW=0\/f.sW=2)/\ -100<=f.n/\f.n<=100
 JZ:(x.fs.map xa.name).Nodup
 ok:s.Ok
def kP(FA:fE)(fc:Nat)(A:fE)(c:Nat):lM:=⟨[],1,none,0,[],FA,fc,[⟨[102],0,9,A,c⟩],none,0,[],none,0,[]⟩
def qA(k:Nat)(eP:fe)(NA:fE)(nc:Nat)(FA:fE)(fc:Nat)(A1:fE)(c1:Nat)(A2:fE)(c2:Nat)(IA:fE)(ic:Nat)(EA:fE)(ec:Nat):lM:=
 ⟨nB k,0,NA,nc,eP.map nB,FA,fc,[⟨[105],2,k,A1,c1⟩,⟨[101],2, -(k:Int),A2,c2⟩],IA,ic,[[105]],EA,ec,[[101]]⟩
theorem IB(b:fE)(c:Nat)(d:fE)(f:Nat):Cm (kP b c d f) jp:=
 ⟨rfl,rfl,rfl,by simp[kP,jp],by simp[kP,jp,un],.inl ⟨rfl,rfl⟩,.inl ⟨rfl,rfl⟩,by simp[kP],by intro g a;simp only[kP,fm,gp,gq] at a;subst a;exact⟨(by unfold tY;decide:tY [102]),(by decide:1<=[102].length),(by decide:[102].length<=64),.inl rfl,(by decide:(-100:Int)<=9),(by decide:(9:Int)<=100)⟩,by simp[kP],Eb⟩
theorem Te(b:n<=12)(c:r.length<=8)(h:∀d∈r,d<=12)(f:fE)(g:Nat)(i:fE)(j:Nat)(k:fE)(l:Nat)(m:fE)(o:Nat)(p:fE)(s:Nat)(t:fE)(u:Nat):Cm (qA n r f g i j k l m o p s t u) (lz n r):=
 ⟨rfl,rfl,rfl,by simp[qA,lz],by simp[qA,lz,un],.inr ⟨0,_,rfl,rfl,rfl⟩,.inr ⟨1,_,rfl,rfl,rfl⟩,by simp[qA],by
   intro v a;simp only[qA,fm,gp,gq] at a;rcases a with rfl|rfl
   ·exact⟨(by unfold tY;decide:tY [105]),(by decide:1<=[105].length),(by decide:[105].length<=64),.inr rfl,by simp only;omega,by simp only;omega⟩
   ·exact⟨(by unfold tY;decide:tY [101]),(by decide:1<=[101].length),(by decide:[101].length<=64),.inr rfl,by simp only;omega,by simp only;omega⟩,by simp[qA],Iv n r b c h⟩
end
section
open Go.RowKit Go.Maps
section
def lB:mB:=[97,177,3]
def jz:mB:=[97,177,3,152,157,5]
theorem lB.sub:∀t∈lB,t∈jz:=by decide
theorem jr.sub:∀t∈jr,t∈jz:=by decide
abbrev LS.re(s:LS)(oA:fE)(oc:Nat)(os:List OV)(sA:fE)(sc:Nat)(scope:fe)(last inits:Nat)(lA:fE)(lc:Nat)(gF:fe):LS:=
 {s with oA:=oA,oc:=oc,os:=os,sA:=sA,sc:=sc,scope:=scope,last:=last,inits:=inits,lA:=lA,lc:=lc,gF:=gF}
abbrev LS.jg(s:LS)(os:List OV):LS:=s.re s.oA s.oc os s.sA s.sc s.scope s.last s.inits s.lA s.lc s.gF
abbrev LS.rX(s:LS)(rs:List Rg)(rv:eS):LS:={s with rs:=rs,rv:=rv}
section
variable {w w':eI} {B p:Nat} {s:LS} {ex ex':List (eS×fS)} {L:mB}
theorem it.km(h:it w B p s ex){oA:fE}{oc:Nat}{os:List OV}{sA:fE}{sc:Nat}{scope:fe}{last inits:Nat}{lA:fE}{lc:Nat}{gF:fe}{g:Nat}(b:CH g L [] w w')(c:∀d∈L,d∈lB)(i:eQ w' p 97 (s.re oA oc os sA sc scope last inits lA lc gF).cells)(j:w'.ownsRow B 177 27 (.slice oA os oc) os (la os))(ints:fo 0 w' ((s.re oA oc os sA sc scope last inits lA lc gF).rows++ex'))(l:∀k∈iG (s.re oA oc os sA sc scope last inits lA lc gF).rows,B<=k):
 it w' B p (s.re oA oc os sA sc scope last inits lA lc gF) ex':=
 ⟨i,h.low,h.vH.ch b (λd f a=>by
     simp only[jr,fm,gp,gq] at f;rcases f with rfl|rfl|rfl<;>exact absurd (c _ a) (by decide)) (by simp),
   h.rT.ch b (λa=>absurd (c _ a) (by decide)),h.qb.ch b (λa=>absurd (c _ a) (by decide)),j,ints,l⟩
theorem it.Vu(h:it w B p s ex){b:List Rg}{c:eS}{d:Nat}(f:j' w' B s.sp b c)(a:CH d jr [] w w'):it w' B p (s.rX b c) ex:=
 ⟨a.eH h.eH,h.low,f,h.rT.ch a (by decide),h.qb.ch a (by decide),a.own h.row,h.ints.ch a,h.ku⟩
theorem Cl.ch{w w':eI}{G:Nat->fe}{N last B:Nat}{L:mB}{ex:List (eS×fS)}{o:OV}(h:Cl w G N last ex o)(c:CH B L [] w w')(b:∀t∈L,t∈jz):Cl w' G N last ex o:=
 ⟨h.fQ,h.im.ch c (λa=>absurd (b _ a) (by decide)) (λa=>absurd (b _ a) (by decide)) (by simp),λd=>(h.tZ d).ch c (λa=>absurd (b _ a) (by decide)) (λa=>absurd (b _ a) (by decide)) (λa=>absurd (b _ a) (by decide)),h.rows,h.id,h.iO,h.ms⟩
theorem it.IH(h:it w B p s ex){a:Nat}(k:a<s.os.length){f:Nat}(i:s.oA=some (eJ f 0)){b:Nat}(l:b<27){c:eS}{d:OV}(m:d.eL=(OV.eL s.os[a]).set b c):
 (w.setCell (eJ f (a*27+b)) c).ownsRow B 177 27 (.slice s.oA (s.os.set a d).length s.oc) (s.os.set a d).length (la (s.os.set a d))/\CH B [177] [] w (w.setCell (eJ f (a*27+b)) c):=by have g:=h.row;rw[i] at g;have j:=(g.stored (a*27+b) c).1;rw[m' gx s.os a b k l d c m] at j;refine⟨by rw[nZ,i];exact j,CH.pD g (by simp) _ _⟩
theorem it.setObj(h:it w B p s ex){a:Nat}(c:a<s.os.length){i:Nat}(m:s.oA=some (eJ i 0)){f:Nat}(n:f<27){j:eS}{b:OV}(o:b.eL=(OV.eL s.os[a]).set f j)(r:OV.rows b=OV.rows s.os[a]):
 it (w.setCell (eJ i (a*27+f)) j) B p (s.jg (s.os.set a b)) ex:=by
 obtain⟨t,g⟩:=h.IH c m n o;have k:(s.jg (s.os.set a b)).rows=s.rows:=by
  have u:∀(d:List OV) (a:Nat) (c:a<d.length),OV.rows b=OV.rows d[a]->(d.set a b).flatMap OV.rows=d.flatMap OV.rows:=by
   intro d;induction d with
   |nil=>intro a c;simp at c
   |cons y d v=>
    intro a c l;cases a with
    |zero=>simp only[AJ,oz];rw[l];rfl
    |succ a=>simp only[List.set_cons_succ,oz];rw[v a (by simpa using c) (by simpa using l)]
  simp only[LS.rows,LS.jg,LS.re,LS.mz,LS.nD];rw[u s.os a c r]
 refine h.km g (by decide) ?_ t ?_ ?_
 ·have:=g.eH h.eH;simpa only[LS.cells,LS.re,nZ] using this
 ·show fo 0 _ ((s.jg (s.os.set a b)).rows++ex);rw[k];exact h.ints.ch g
 ·show ∀x∈iG (s.jg (s.os.set a b)).rows,B<=x;rw[k];exact h.ku
theorem uN(h:it w B p s ex){i:Nat}(b:i<s.os.length){a:Nat}(c:s.oA=some (eJ a 0)){j:Nat}(d:j<27){u v0:eS}{o':OV}(k:(OV.eL s.os[i])[j]? =some v0)(g:o'.eL=(OV.eL s.os[i]).set j u)(l:OV.rows o'=OV.rows s.os[i]):
 it (w.setCell (eJ a (i*27+j)) u) B p (s.jg (s.os.set i o')) ex/\CH B [177] [] w (w.setCell (eJ a (i*27+j)) u)/\w.frozen? (eJ a (i*27+j))=false/\w.cell? (eJ a (i*27+j))=some v0:=by have f:=h.row;rw[c] at f;refine⟨h.setObj b c d g l,(h.IH b c d g).2,f.frozenAt _, ?_⟩;rw[f.cellAt (i*27+j) (by omega),iI gx s.os i j b d];exact k
theorem gG.iO{G:Nat->fe}{N:Nat}(h:gG w G N B p s ex kM):s.os.length<=N+1:=by
 have:=iM (m:=N+1) (s.gd.map Ob.fQ) h.qy (λd a=>by simp only[LS.gd,jL,fy,Function.comp] at a;obtain⟨b,c,rfl⟩:=a;have:=(h.each b c).fQ;simp only[OV.ob];omega)
 simpa[LS.gd] using this
end
end
end
section
open Go.RowKit
section
def xd(o:OV):eS:=fV o.eL.toArray
theorem iR:(prog.info? 177).map (·.size)=some 27:=by kernel_rfl
theorem GY(a:OV)(c id:Nat)(b:eI)(h:b.cell? (eJ c 0)=some (eE (id:Nat))):Calls prog 139 #[xd a,fw c] b λe d=>e=fH (fz ((a.id:Int)==(id:Int)))/\eF b d:=by have f:=(eQ.new b 177 a.eL.toArray).ce 0 (eE (a.id:Nat));have g:=(eF.alloc b (eN a.eL.toArray 177)).cell h;unfold xd;clear h;generalize a.eL=i at*;go_in;go_wp2;go_ret;exact⟨rfl,eF.alloc _ _⟩
def oZ(os:List OV)(id:Nat):Int:=if os.findIdx (λo=>o.id==id)<os.length then(os.findIdx (λo=>o.id==id):Nat) else-1
theorem mv{os:List OV}{i id:Nat}(a:i<os.length)(gO:os[i].id=id)(c:∀j (b:j<i),os[j].id≠id):oZ os id=i:=by
 have d:os.findIdx (λf=>f.id==id)=i:=by refine(List.findIdx_eq a).2 ⟨by simpa using gO,λj b=>by simpa using c j b⟩
 unfold oZ;rw[d,fW a]
theorem Ko{a:List OV}{id:Nat}(h:∀c∈a,c.id≠id):oZ a id= -1:=by unfold oZ;rw[fG];intro b;have:=Uy (w:=b);simp only[sT] at this;exact h _ (eU b) this
theorem it.Kq{p:Nat}{a:LS}(h:it w n p a kB):Rd w a.oA (la a.os):=by
 intro c d;have i:(la a.os).length=a.os.length*27:=kU gx _;obtain⟨j,k,f,l,m,_,_⟩:=jI h.row (by omega);injection f with g _ _
 have b:=h.row;rw[g] at b ⊢;exact mo b 0 c (by simpa using d)
theorem jW{A:fE}{os:List OV}(h:Rd w A (la os)){i:Nat}(f:i<os.length):∃a b,A=some (eJ a b)/\a<w.heap.size/\(∀c,eF w c->(loadVar 177 (eJ a (b+i*27))).run prog c=.ok (xd os[i]) c)/\∀(j:Nat) (v:eS),(OV.eL os[i])[j]? =some v->w.cell? (eJ a (b+(i*27+j)))=some v:=by obtain⟨a,b,g,k,d⟩:=ut gx h f (by omega);refine⟨a,b,g,k,λc l=> ?_,d⟩;refine jo c a _ 177 os[i].eL _ (λj m=> ?_) underlying177 rfl (by rw[gx];exact iR);rw[qX];exact l.cell (d j _ (gg m))
theorem NH(o:fE)(z:Nat)(a:List OV)(k id:Nat)(f:eI)(p:Rd f o (la a))(J:a.length<=1000)(h:f.cell? (eJ k 0)=some (eE (id:Nat))):
 Calls prog 138 #[.slice o a z,.func (.func 139) #[] #[fw k]] f λe A=>e=fH (eE (oZ a id))/\eF f A:=by
 have B:=eD p;have C:=eD h;clear p h;go_in;go_wp2;go_loopw [8] (λl wr=>∃c:Nat,c<=a.length/\l=eE c/\(∀b (d:b<a.length),b<c->a[b].id≠id)/\eF f wr) (λl _=>a.length- (intOf l).toNat)
 case atStart=>exact⟨0,eX _,rfl,λb _ d=>by omega,eF.refl f⟩
 case round=>
  obtain⟨c,K,rfl,r,s⟩:=hrel;have m:=eD r;have j:=eD s;clear r s;by_cases t:c<a.length
  ·obtain⟨L,M,rfl,N,u,D⟩:=jW B t;have v:=eD (u wr j);have w:=eD (GY a[c] k id wr (j.cell C));have E:Hid (a[c].id≠id->∀b (d:b<a.length),b<c+1->a[b].id≠id):=eD (λF b d O=>by
    by_cases e:b=c
    ·subst e;exact F
    ·exact m b d (by omega))
   have G:Hid (a[c].id=id->oZ a id=c):=eD (λg=>mv t g (λb d=>m b (by omega) d));clear u D;generalize a[c]=i at*;go_wp2_with (refine eK rfl 177 (.tmp 14) rfl _ rfl (xd i) ?_ ?_)
   ·exact v
   go_wp2_with fail
   refine w.mono ?_;rintro e P ⟨rfl,x⟩;have y:=eD (j.trans x);clear x w v;by_cases g:i.id=id
   ·have n:((i.id:Int)==(id:Int))=true:=by simp[g]
    rw[n];go_wp2;go_ret;exact⟨by rw[G g];rfl,y⟩
   ·have n:((i.id:Int)==(id:Int))=false:=by simp;omega
    rw[n];go_wp2;go_roundw
    case rel=>exact⟨c+1,by omega,by go_num,E g,y⟩
    case measure=>simp[intOf];omega
  ·have H:Hid (oZ a id= -1):=eD (Ko λi I=>by obtain⟨b,d,rfl⟩:=gN I;exact m b d (by omega))
   go_wp2;go_ret;exact⟨by rw[H];rfl,j⟩
section
variable {w:eI} {B p:Nat} {s:LS} {ex:List (eS×fS)}
theorem kv(h:it w B p s ex)(c:s.os.length<=1000)(id:Nat):Calls prog 78 #[fw p,eE (id:Nat)] w λe d=>e=fH (eE (oZ s.os id))/\eF w d:=by
 have a:=eF.alloc w (eN #[eE (id:Nat)] 3);have f:=eD (NH s.oA s.oc s.os w id (w.alloc (eN #[eE (id:Nat)] 3)) (a.rd h.Kq) c (Df _ _ _ 0 rfl));have j:=a.cell (h.eH.ce 6 (.slice s.oA s.os.length s.oc));have g:=eD a;clear a h;go_in;go_wp2_with fail
 refine f.mono ?_;rintro e k ⟨rfl,b⟩;have i:=eD (g.trans b);clear b;go_wp2;go_ret;exact⟨rfl,i⟩
theorem uO(h:it w B p s ex)(m:s.os.length<=1000){i:Nat}(n:i<s.os.length)(d:∀j (t:j<i),s.os[j].id≠s.os[i].id){g:Nat}(o:s.oA=some (eJ g 0)):
 Calls prog 126 #[fw p,eE (s.os[i].id:Nat)] w λe b=>e=fH (.pointer (some (eJ g (i*27))))/\eF w b:=by
 have f:=eD (λb (a:eF w b)=>kv (h.ext a) m s.os[i].id);have k:=mv n rfl d;rw[k] at f;have r:∀c:EW w,c.w.cell? (eJ p 6)=some (fN g s.os.length s.oc):=λc=>c.cell (by rw[<-o];exact h.eH.cell 6 rfl);clear k d h;generalize s.os[i].id=id at*;go_in;go_wp2;refine R7 [0,1,2,3,4,5] [6,7,8] ?_;repeat(go_big_quiet_step (fail))
 refine eO ?_;clear r;go_wp2_with fail
 refine(f w.drew (eF.drew w)).mono ?_;rintro e u ⟨rfl,a⟩;have l:=eD ((eF.drew w).trans a);clear a;go_wp2;refine⟨⟨⟨_,l⟩,rfl⟩, ?_⟩;go_wp2;go_ret;exact⟨by simp,l⟩
end
end
structure Ed where
 A:fE
 c:Nat
 l:fe
def Ed.cell(e:Ed):eS:=.slice e.A e.l e.c
structure nF(w:eI)(A:fE)(es:List Ed):Prop where
 rd:Rd w A (es.map Ed.cell)
 each:∀e∈es,Rd w e.A (ints (eM e.l))
theorem nF.ext{w w':eI}{A:fE}{es:List Ed}(h:nF w A es)(a:eF w w'):nF w' A es:=⟨a.rd h.rd,λe b=>a.rd (h.each e b)⟩
theorem nF.at{w:eI}{A:fE}{es:List Ed}(h:nF w A es){i:Nat}(c:i<es.length):∃b a,A=some (eJ b a)/\b<w.heap.size/\w.cell? (eJ b (a+i))=some es[i].cell/\Rd w es[i].A (ints (eM es[i].l)):=by obtain⟨b,a,f,d⟩:=h.rd i (by simpa using c);exact⟨b,a,f,js d,by rw[d];simp,h.each _ (eU c)⟩
def mQ(es:List Ed)(i:Nat):fe:=match es[i]? with|some e=>e.l|none=>[]
theorem vR{a:List Ed}(b:n<a.length):mQ a n=a[n].l:=by simp only[mQ,gg b]
theorem ja{w:eI}{A:fE}{l:fe}(h:Rd w A (ints (eM l))){i:Nat}(d:i<l.length):∃b a,A=some (eJ b a)/\b<w.heap.size/\w.cell? (eJ b (a+i))=some (eE (l[i]:Nat)):=by obtain⟨b,a,f,c⟩:=h i (by simpa[ints,eM] using d);exact⟨b,a,f,js c,by rw[c];simp[ints,eM]⟩
theorem oK(a:Nat)(l:fe):decide ((a:Int)∈eM l)=decide (a∈l):=by
 congr 1
 simp only[eM,fy,eq_iff_iff];exact⟨λ⟨b,c,e⟩=>by
  obtain rfl:b=a:=by omega
  exact c,λh=>⟨a,h,rfl⟩⟩
def pu(w:eI)(out:fe)(e:Ending)(w':eI):Prop:=∃v',e=fH v'/\w'.ownsRow w 3 1 v' out (ints (eM out))/\eF w w'
structure yR(es:List Ed):Prop where
 up:∀n,∀k∈mQ es n,n<k/\k<=es.length- 1
 iO:es.length<=100
 Bj:∀n,(mQ es n).length<=100
theorem jR{c b:Type}(f:b->c->b)(a:List c)(d:b){k:Nat}(g:k<a.length):(a.take (k+1)).foldl f d=f ((a.take k).foldl f d) a[k]:=by rw[iz g,Dk];rfl
theorem NP(d:List Ed)(m:yR d)(al:fE)(c:Nat):∀(f n:Nat) (done:fe) (t:fE) (y z:Nat) (i:eI),nF i al d->n<d.length->d.length- n<=f->Rd i t (ints (eM done))->done.length=y->done.Nodup->(∀o∈done,o<d.length)->
 Calls prog 18 #[.slice al d c,eE n,.slice t y z] i (pu i (hJ (mQ d) f n done)):=by
 intro f;induction f with
 |zero=>intro n done t y z i _ H hf;omega
 |succ f V=>
  intro n done t y z i W H hf X am Y Z;have a1:=eY (iM done Y Z) m.iO;have A:=eD (xg t y z (eM done) n i X (by rw[fv];exact am) (by omega));rw[oK] at A;subst am;by_cases p:n∈done
  ·have B:Hid (hJ (mQ d) (f+1) n done=[]):=eD (by rw[mc,fW p]);have C:=jU p;rw[C] at A;clear p C V;go_in;go_wp2_with fail
   refine A.mono ?_;rintro e w2 ⟨rfl,rfl⟩;go_wp2;go_ret;exact⟨_,rfl,by rw[B];exact⟨by simp[ints,eM],.inl ⟨rfl,rfl⟩⟩,eF.refl _⟩
  ·have I:=oT (G:=mQ d) (N:=d.length- 1) m.up (f+1) n done (by omega) (by omega);have B:=eD (mc (mQ d) f n done);rw[fG p] at B;have C:=kD p;rw[C] at A;have HE:=eD W;have HD:=eD X;have aI:=eD V;have an:Hid (∀g,g<=(mQ d n).length->let J:=((mQ d n).take g).foldl (j9 (mQ d) f) ([],done++[n]);J.2.Nodup/\(∀o∈J.2,o<d.length)/\J.2=done++[n]++J.1):=eD (λg hj=>by
    obtain⟨u,K,r3,r4,r5,r6,r7⟩:=vE (G:=mQ d) (f:=f) (n:=n) (done:=done) ((mQ d n).take g) ([],done++[n]) (λa j aJ=>by have:=m.up n a (qT j);exact oT m.up f a aJ this.2 (by omega)) (λ_ h=>qT h) (by simp) (by simp) (by simp) (by simp) (by simp)
    refine⟨?_,λo k=> ?_,u⟩
    ·rw[u];exact kF.2 ⟨kF.2 ⟨Y,by simp,λaK ha ad M e=>p (by simp only[fF] at M;subst M;subst e;exact ha)⟩,K,λaK ha ad M e=>r3 ad M (e▸ha)⟩
    ·rw[u] at k;rcases gu.1 k with k|k
     ·rcases gu.1 k with k|k
      ·exact Z o k
      ·simp only[fF] at k;omega
     ·have:=(r4 o k).mO (S:=(· <d.length)) (λO hy a j=>by have:=m.up O a j;omega) H;exact this)
   have a2:=m.iO;have ao:=m.Bj n;have aL:=eD (m.up n);obtain⟨ad,a3,rfl,a4,ap,ae⟩:=W.at H;have w:=eD (vR H);generalize hG:mQ d=G at*;clear hG;generalize d[n]=en at*;obtain⟨eA,ec,el⟩:=en;simp only[Ed.cell] at ap ae w;have aM:=eD ae;have a5:el.length<=100:=by rw[<-w];exact ao
   clear ae W X V C p I Y Z m ao;go_in;go_wp2_with fail
   refine A.mono ?_;rintro e w2 ⟨rfl,rfl⟩;have aq:=eD (fo.nil i i 2);go_wp2_with (at_builtin;go_loud(refine iZ rfl _ _ rfl aq 1 (eW) [] rfl rfl t z done.length (eM done) rfl (fv _) HD (by simp;omega) (fJ _) ?_))
   intro v1 w1 u g1 _;have ar:=(fi.grown g1).ext (eF.refl i) (λa j=>by cases j);have af:=eD ar;have ag:=eD u;clear u g1 ar;have aN:=af.size;have au:Hid (fo i (w1.alloc (.cells #[eE n] 3)) [(eW,[]),(v1,eM done)]):=eD (ag.ext (eF.alloc _ _));go_wp2_with (at_builtin;go_loud(refine iZ rfl _ _ rfl au 1 v1 (eM done) rfl rfl (some (eJ w1 0)) 1 1 [(n:Int)] rfl rfl (vz _ _) (by simp[fv];omega) (by simp;omega) ?_))
   intro v2 w2 K g2 _;have av:=eD ((fi.grown g2).ext (af.trans (eF.alloc _ _)) (λa j=>(ag.own 1 _ rfl).lt a j.symm |>.1));have aO:Hid (fo i w2 [(eW,[]),(v2,eM (done++[n]))]):=eD (by rw[iJ];exact K);clear K g2 aN ag au af aq;obtain⟨b,h0,hS,I⟩:∃b:Nat->fe×fe,b 0=([],done++[n])/\(∀a (j:a<el.length),b (a+1)=j9 G f (b a) el[a])/\(∀g,g<=el.length->(b g).2.Nodup/\(∀o∈(b g).2,o<d.length)/\(b g).2=done++[n]++(b g).1):=by refine⟨λg=>(el.take g).foldl (j9 G f) ([],done++[n]),rfl,λa j=>jR _ _ _ j,λg hj=> ?_⟩;have:=an g (by rw[w];exact hj);rw[w] at this;exact this
   have aP:Hid (hJ G (f+1) n done=(b el.length).1++[n]):=eD (by
    have:∀g,g<=el.length->b g=(el.take g).foldl (j9 G f) ([],done++[n]):=λg=>by
     induction g with
     |zero=>intro _;rw[h0];rfl
     |succ g aQ=>intro hj;rw[hS g (by omega),aQ (by omega),jR _ _ _ (by omega)]
    rw[B,w,this el.length (fJ _),iT])
   have H0:=eD h0;have HS:=eD hS;have aw:=eD I;clear h0 hS I an B;have a6:=av.cell ap;go_wp2;go_loopw [28,7,8] (λr s7 s8 wr=>∃a:Nat,a<=el.length/\r=eE a/\fo i wr [(s8,eM (b a).1),(s7,eM (b a).2)]/\eF i wr) (λr _ _ _=>el.length- (intOf r).toNat)
   case atStart=>exact⟨0,eX _,rfl,by rw[H0];exact aO,av⟩
   case round=>
    obtain⟨a,j,rfl,D,k⟩:=hrel;have P:=eD D;have x:=eD k;clear D k;obtain⟨ah,ai,ax⟩:=aw a j;have a7:=iM _ ah ai;have a8:(b a).1.length<=(b a).2.length:=by rw[ax];simp;omega
    by_cases Q:a<el.length
    ·obtain⟨be,a9,rfl,a',ay⟩:=ja aM Q;have bb:=x.cell ay;have bc:=aL el[a] (by rw[w];exact eU Q);have az:=eD (HS a Q);obtain⟨aA,aB,aR⟩:=aw (a+1) Q;have aS:=iM _ aA aB;generalize el[a]=s at*;obtain⟨aC,A7,c7,rfl⟩:=P.V6 1 rfl;have aD:=eD (aI s (b a).2 A7 _ c7 wr (HE.ext x) (by omega) (by omega) (Rd.fC aC) rfl ah ai);clear aC;have aT:Hid ((b (a+1)).1=(b a).1++hJ G f s (b a).2):=eD (by rw[az];rfl);have aE:Hid ((b (a+1)).2=(b a).2++hJ G f s (b a).2):=eD (by rw[az];rfl);have bd:(b a).2.length+(hJ G f s (b a).2).length<=d.length:=by rw[<-fT,<-aE.out];exact aS
     clear ay ah ai ax aA aB aR;go_wp2_with fail
     refine aD.mono ?_;rintro e w4 ⟨vr,rfl,o4,aj⟩;obtain⟨Ar,cr,rfl⟩:=eR o4;have aU:=eD (x.trans aj);have aV:=eD (P.push (v:=.slice Ar (hJ G f s (b a).2).length cr) (xs:=eM (hJ G f s (b a).2)) aj (by rw[fv];exact o4) x.size);clear o4 aj aD;generalize hJ G f s (b a).2=l at*;go_wp2;go_loopw [37,7,8] (λr s7 s8 wr=>∃q:Nat,q<=l.length/\r=eE q/\fo i wr [(s8,eM ((b a).1++l.take q)),(s7,eM ((b a).2++l.take q)),(.slice Ar l.length cr,eM l)]/\eF i wr) (λr _ _ _=>l.length- (intOf r).toNat)
     case atStart=>exact⟨0,eX _,rfl,by simpa using aV.out,aU.out⟩
     case round=>
      obtain⟨q,hq,rfl,D,k⟩:=hrel;have R:=eD D;have ak:=eD k;clear D k;by_cases aF:q<l.length
      ·obtain⟨aG,_⟩:=R.V6 2 rfl;obtain⟨bq,oq,rfl,bf,bg⟩:=ja (Rd.fC aG) aF;have aW:=eD (iz aF);generalize l[q]=O at*;have bh:(l.take q).length<=l.length:=List.length_take_le' _ _;clear aG;go_wp2_with (at_builtin;go_loud(refine iZ rfl _ _ rfl (R.ext (eF.alloc _ _)) 0 _ _ rfl rfl (some (eJ _ 0)) 1 1 [(O:Int)] rfl rfl (vz _ _) (by rw[fv,fT];omega) (by have:=ak.size;simp;omega) ?_))
       intro T w8 E F _;have U:=eD ((fi.grown F).ext (ak.trans (eF.alloc _ _)) (λa j=>(R.own 0 _ rfl).lt a j.symm |>.1));have aH:=eD E;clear E F;go_wp2_with (at_builtin;go_loud(refine iZ rfl _ _ rfl (aH.ext (eF.alloc _ _)) 1 _ _ rfl rfl (some (eJ _ 0)) 1 1 [(O:Int)] rfl rfl (vz _ _) (by rw[fv,fT];omega) (by have:=U.size;simp;omega) ?_))
       intro v9 w9 r9 g9 _;have aX:=eD ((fi.grown g9).ext (U.trans (eF.alloc _ _)) (λa j=>(aH.own 1 _ rfl).lt a j.symm |>.1));have aY:Hid (fo i w9 [(T,eM ((b a).1++l.take (q+1))),(v9,eM ((b a).2++l.take (q+1))),(.slice (some (eJ bq oq)) l.length cr,eM l)]):=eD (by rw[aW,<-iK,<-iK,iJ (_++_),iJ ((b a).2++_)];exact r9)
       clear r9 g9;go_wp2;go_roundw
       case rel=>exact⟨q+1,by omega,by go_num,aY,aX⟩
       case measure=>simp[intOf];omega
      ·obtain rfl:q=l.length:=by omega
       have aZ:Hid (fo i wr [(_,eM (b (a+1)).1),(_,eM (b (a+1)).2)]):=eD (by have:=R.out;rw[iT,<-aT,<-aE] at this;exact fo.pop (L:=[_,_]) this)
       go_wp2;go_roundw
       case rel=>exact⟨a+1,by omega,by go_num,aZ,ak⟩
       case measure=>simp[intOf];omega
    ·obtain rfl:a=el.length:=by omega
     go_wp2_with (at_builtin;go_loud(refine iZ rfl _ _ rfl (P.ext (eF.alloc _ _)) 0 _ _ rfl rfl (some (eJ _ 0)) 1 1 [(n:Int)] rfl rfl (vz _ _) (by rw[fv];omega) (by have:=x.size;simp;omega) ?_))
     intro T w8 E F _;have U:=eD ((fi.grown F).ext (x.trans (eF.alloc _ _)) (λa j=>(P.own 0 _ rfl).lt a j.symm |>.1));have a0:Hid (pu i (hJ G (f+1) n done) (fH T) w8):=eD ⟨T,rfl,by rw[aP];have:=(E.own 0 _ rfl);simp only at this;rwa [show eM (b el.length).1++[(n:Int)]=eM ((b el.length).1++[n]) by simp[eM],fv] at this,U.out⟩
     clear E F;go_wp2;go_ret;exact a0
end
section
open Go.RowKit Go.Maps
theorem qI:Keyed prog 3:=int_keyed underlying3
theorem kZ(a:Int)(h: -9223372036854775808<=a/\a<=9223372036854775807):keyOf prog 3 (.int .i64 a)=some (.int .i64 a):=Maps.keyOf_int_mk (P:=prog) (k:=3) underlying3 (by simp only[Lit.wf,pC,jh];exact h)
theorem eF.lD(d:eF w v){k:ik}{a:eS->Option (DataW eS×List MemPlace)}{b c:Nat}{D:DataW eS}(h:w.ownsMap prog k a b c D):v.ownsMap prog k a b c D:=(CH.fg (B:=0) (L:=[]) (M:=[]) d).map h (by simp)
abbrev kI(n:Nat):Lit:=.int .i64 (n:Int)
theorem OF(h:n≠k):kI n≠kI k:=λe=>by simp only[kI,IS,ky] at e;omega
structure rl(D:DataW eS)(ks:fe)(f:Nat->eS):Prop where
 map:IsMap D
 at_:∀k∈ks,At D (kI k) (f k)
 only:∀kl,Maps.has D kl=true->∃k∈ks,kl=kI k
theorem rl.nil(f:Nat->eS):rl (.map []) [] f:=⟨⟨_,rfl⟩,by simp,λa h=>by cases h⟩
theorem rl.no{c:Nat->eS}(h:rl kK r c){a:Nat}(d:a∉r):No kK (kI a):=by
 unfold No;cases e:Maps.has kK (kI a) with
 |false=>rfl
 |true=>
  obtain⟨f,g,i⟩:=h.only _ e;by_cases b:a=f
  ·subst b;exact absurd g d
  ·exact absurd i (OF b)
theorem rl.put{D:DataW eS}{f a:Nat->eS}(h:rl D r f)(k:Nat)(b:∀j,j∈s↔j=k\/j∈r)(i:∀j∈r,j≠k->a j=f j):rl (D.put (kI k) (.held (a k))) s a:=by
 refine⟨h.map.put _ _,λj c=> ?_,λd g=> ?_⟩
 ·by_cases e:j=k
  ·subst e;exact At.put h.map (show WideAt.IsKeyLit (kI j) from trivial) _
  ·have:=((b j).1 c).resolve_left e;rw[i j this e];exact(h.at_ j this).other (OF e) _
 ·by_cases e:d=kI k
  ·exact⟨k,(b k).2 (.inl rfl),e⟩
  ·rw[has_put_other e] at g;obtain⟨j,c,l⟩:=h.only d g;exact⟨j,(b j).2 (.inr c),l⟩
theorem rl.del{ks':fe}{f:Nat->eS}(h:rl kK r f)(c:Nat)(d:∀j,j∈ks'↔j∈r/\j≠c):rl (kK.del (kI c)) ks' f:=by
 refine⟨h.map.del _,λj a=>(h.at_ j ((d j).1 a).1).del (OF ((d j).1 a).2),λg b=> ?_⟩;by_cases e:g=kI c
 ·subst e;rw[has_del_same] at b;cases b
 ·rw[has_del_other e] at b;obtain⟨j,a,i⟩:=h.only g b;refine⟨j,(d j).2 ⟨a,λk=>e (by rw[i,k])⟩,i⟩
def hV(x:Hn):eS:=fV #[eE (x.gL:Nat),eE (x.count:Nat)]
def z3(hs:List Hn)(h:Nat):eS:=match hs.find? (λx=>x.h==h) with|some x=>hV x|none=>undef
theorem nk{a:List Hn}(f:(a.map Hn.h).Nodup){x:Hn}(b:x∈a):z3 a x.h=hV x:=by
 unfold z3;cases e:a.find? (λc=>c.h==x.h) with
 |none=>exact absurd (QU.1 e x b) (by simp)
 |some c=>have d:=Ml e;simp only[sT] at d;rw[mR f (Dj e) b d]
abbrev TH(D:DataW eS)(hs:List Hn):Prop:=rl D (hs.map Hn.h) (z3 hs)
end
end
end Go.Proofs.YtoaehdgokeicoaaGreatDoor
namespace Go.Proofs
section
open Go.RowKit Go.Maps Go.Sort Go.Shelf
def Tryz.BB:Go.Shelf.Ren:=⟨fun|7=>46|10=>75|n=>n,fun|23=>89|26=>3|3=>148|28=>145|0=>0|27=>144|33=>32|4=>4|n=>n,fun|n=>n⟩
theorem Tryz.SC:Go.Proofs.SlLaysZI.n7 Tryz.prog Tryz.BB:=by constructor<;>first|kernel_rfl|(intro _;kernel_rfl)|exact⟨Tryz.f46.name,by decide,Tryz.func46.trans (congrArg some (by kernel_rfl))⟩|exact⟨Tryz.f75.name,by decide,Tryz.func75.trans (congrArg some (by kernel_rfl))⟩
def Tryz.BD:Go.Shelf.Ren:=⟨fun|7=>47|10=>76|n=>n,fun|23=>85|26=>3|3=>160|28=>145|0=>0|27=>144|33=>32|4=>4|n=>n,fun|n=>n⟩
theorem Tryz.SD:Go.Proofs.SlLaysZI.n7 Tryz.prog Tryz.BD:=by constructor<;>first|kernel_rfl|(intro _;kernel_rfl)|exact⟨Tryz.f47.name,by decide,Tryz.func47.trans (congrArg some (by kernel_rfl))⟩|exact⟨Tryz.f76.name,by decide,Tryz.func76.trans (congrArg some (by kernel_rfl))⟩
def Tryz.BE:Go.Shelf.Ren:=⟨fun|7=>52|10=>81|n=>n,fun|23=>189|26=>3|3=>196|28=>145|0=>0|27=>144|33=>32|4=>4|n=>n,fun|n=>n⟩
theorem Tryz.SE:Go.Proofs.SlLaysZI.n7 Tryz.prog Tryz.BE:=by constructor<;>first|kernel_rfl|(intro _;kernel_rfl)|exact⟨Tryz.f52.name,by decide,Tryz.func52.trans (congrArg some (by kernel_rfl))⟩|exact⟨Tryz.f81.name,by decide,Tryz.func81.trans (congrArg some (by kernel_rfl))⟩
def Tryz.wU:Go.Shelf.Ren:=⟨fun|6=>45|8=>73|9=>74|11=>133|13=>135|12=>134|23=>215|24=>216|14=>206|15=>207|16=>208|17=>209|18=>210|19=>211|20=>212|21=>213|22=>214|25=>289|26=>290|27=>291|28=>292|29=>293|30=>294|31=>340|n=>n,fun|26=>3|28=>145|24=>23|0=>0|3=>3|37=>316|48=>334|50=>270|4=>4|40=>388|39=>387|45=>226|5=>5|9=>9|51=>469|55=>404|57=>511|58=>381|33=>32|n=>n,fun|n=>n⟩
theorem Tryz.CQ:Go.Proofs.SlLaysZI.n6 Tryz.prog Tryz.wU:=by constructor<;>first|kernel_rfl|(intro _;kernel_rfl)|exact⟨Tryz.f45.name,by decide,Tryz.func45.trans (congrArg some (by kernel_rfl))⟩|exact⟨Tryz.f73.name,by decide,Tryz.func73.trans (congrArg some (by kernel_rfl))⟩|exact⟨Tryz.f133.name,by decide,Tryz.func133.trans (congrArg some (by kernel_rfl))⟩
def Tryz.K6:Go.Shelf.Ren:=⟨fun|5=>74|8=>135|7=>134|19=>215|20=>216|10=>206|11=>207|12=>208|13=>209|14=>210|15=>211|16=>212|17=>213|18=>214|30=>289|31=>290|32=>291|33=>292|34=>293|35=>294|40=>340|n=>n,fun|23=>23|25=>3|3=>3|32=>316|22=>23|0=>0|44=>334|46=>270|4=>4|36=>388|35=>387|41=>226|5=>5|9=>9|53=>469|57=>404|63=>511|64=>381|n=>n,fun|n=>n⟩
theorem Tryz.SF:Go.Proofs.SlLaysM.n5 Tryz.prog Tryz.K6:=by constructor<;>first|kernel_rfl|(intro _;kernel_rfl)|exact⟨Tryz.f74.name,by decide,Tryz.func74.trans (congrArg some (by kernel_rfl))⟩|exact⟨Tryz.f134.name,by decide,Tryz.func134.trans (congrArg some (by kernel_rfl))⟩|exact Tryz.func135.trans (congrArg some (by kernel_rfl))|exact⟨Tryz.f206.name,by decide,Tryz.func206.trans (congrArg some (by kernel_rfl))⟩|exact⟨Tryz.f207.name,by decide,Tryz.func207.trans (congrArg some (by kernel_rfl))⟩|exact⟨Tryz.f208.name,by decide,Tryz.func208.trans (congrArg some (by kernel_rfl))⟩|exact⟨Tryz.f209.name,by decide,Tryz.func209.trans (congrArg some (by kernel_rfl))⟩|exact⟨Tryz.f210.name,by decide,Tryz.func210.trans (congrArg some (by kernel_rfl))⟩|exact⟨Tryz.f211.name,by decide,Tryz.func211.trans (congrArg some (by kernel_rfl))⟩|exact⟨Tryz.f212.name,by decide,Tryz.func212.trans (congrArg some (by kernel_rfl))⟩|exact⟨Tryz.f213.name,by decide,Tryz.func213.trans (congrArg some (by kernel_rfl))⟩|exact⟨Tryz.f214.name,by decide,Tryz.func214.trans (congrArg some (by kernel_rfl))⟩|exact Tryz.func215.trans (congrArg some (by kernel_rfl))|exact Tryz.func216.trans (congrArg some (by kernel_rfl))|exact⟨Tryz.f289.name,by decide,Tryz.func289.trans (congrArg some (by kernel_rfl))⟩|exact Tryz.func290.trans (congrArg some (by kernel_rfl))|exact Tryz.func291.trans (congrArg some (by kernel_rfl))|exact⟨Tryz.f292.name,by decide,Tryz.func292.trans (congrArg some (by kernel_rfl))⟩|exact⟨Tryz.f293.name,by decide,Tryz.func293.trans (congrArg some (by kernel_rfl))⟩|exact⟨Tryz.f294.name,by decide,Tryz.func294.trans (congrArg some (by kernel_rfl))⟩|exact⟨Tryz.f340.name,by decide,Tryz.func340.trans (congrArg some (by kernel_rfl))⟩
theorem Tryz.G'(c:Nat):AnyZI.SortsIn Tryz.prog Tryz.wU Fence.wide c:=
 ⟨λd f a g b i j k=>callsIn_wide.2 (AnyM.slices_Sort_int Tryz.SF d f a g b i j k),
  λl a b=>callsIn_wide.2 (AnyM.slices_Sort_int_none Tryz.SF l a b)⟩
end
end Go.Proofs
namespace Go.Proofs.YtoaehdgokeicoaaGreatDoor
open K9 Z9 Go.Proofs.Tryz
section
open Go.RowKit Go.Maps Go.Sort Go.Shelf
section
open K9 Z9
open Go.RowKit Go.Maps Go.Sort Go.Shelf
def uY{H:Type}(w:eI)(D0:DataW H)(e:Ending)(w':eI):Prop:=∃(v:eS) (ss:fS),e=fH v/\ss.Perm (intKeys D0)/\w'.ownsRow w 3 1 v ss (ints (ss.mergeSort (λx y=>decide (x<=y))))/\eF w w'
theorem BF(b:Nat)(a:eI):Calls prog 46 #[.map (some b)] a λe c=>e=fH (.func (.func 75) #[] #[fw a])/\c=a.alloc (eN #[.map (some b)] 89):=
 (callsIn_wide (n:=5)).1 (AnyZI.keys_in Tryz.SC Fence.wide 5 trivial rfl (some b) a)
theorem wV{g:Type}(d i b:Nat)(a:DataW g)(l:eS->Option (DataW g×List MemPlace))(c:eI)(m:c.ownsMap prog 3 l d i a)(j:eQ c b 89 #[.map (some d)])(u:Maps.size a<=10000):
 Calls prog 45 #[.func (.func 75) #[] #[fw b]] c (uY c a):=by
 have o:SeqGives Fence.wide 2 prog 75 #[fw b] encZ (λf=>f.Perm (intKeys a)) (Maps.size a) c:=
  AnyZI.keys_gives (ρ:=Tryz.BB) {Tryz.SC with} Fence.wide _ trivial rfl (by omega) b d i a _ j.lt (j.cell 0 rfl) m
 have k:=AnyZI.sorted_in Tryz.CQ Fence.wide 5 trivial trivial trivial trivial rfl (by omega) (Tryz.G' _) (enters_of func74 (by kernel_rfl) rfl) 75 #[fw b] trivial (enters_of func75 (by kernel_rfl) rfl) _ _ (by unfold maxLen;omega) (by omega) _ o;change CallsIn _ _ prog 45 _ _ _ at k;refine((callsIn_wide (n:=5)).1 k).mono ?_;rintro e v ⟨p,f,rfl,r,s,_,t⟩;exact⟨p,f,rfl,r,s,t⟩
theorem K7(b:Nat)(a:eI):Calls prog 47 #[.map (some b)] a λe c=>e=fH (.func (.func 76) #[] #[fw a])/\c=a.alloc (eN #[.map (some b)] 85):=
 (callsIn_wide (n:=5)).1 (AnyZI.keys_in Tryz.SD Fence.wide 5 trivial rfl (some b) a)
theorem E6{g:Type}(d i b:Nat)(a:DataW g)(l:eS->Option (DataW g×List MemPlace))(c:eI)(m:c.ownsMap prog 3 l d i a)(j:eQ c b 85 #[.map (some d)])(u:Maps.size a<=10000):
 Calls prog 45 #[.func (.func 76) #[] #[fw b]] c (uY c a):=by
 have o:SeqGives Fence.wide 2 prog 76 #[fw b] encZ (λf=>f.Perm (intKeys a)) (Maps.size a) c:=
  AnyZI.keys_gives (ρ:=Tryz.BD) {Tryz.SD with} Fence.wide _ trivial rfl (by omega) b d i a _ j.lt (j.cell 0 rfl) m
 have k:=AnyZI.sorted_in Tryz.CQ Fence.wide 5 trivial trivial trivial trivial rfl (by omega) (Tryz.G' _) (enters_of func74 (by kernel_rfl) rfl) 76 #[fw b] trivial (enters_of func76 (by kernel_rfl) rfl) _ _ (by unfold maxLen;omega) (by omega) _ o;change CallsIn _ _ prog 45 _ _ _ at k;refine((callsIn_wide (n:=5)).1 k).mono ?_;rintro e v ⟨p,f,rfl,r,s,_,t⟩;exact⟨p,f,rfl,r,s,t⟩
theorem K8(b:Nat)(a:eI):Calls prog 52 #[.map (some b)] a λe c=>e=fH (.func (.func 81) #[] #[fw a])/\c=a.alloc (eN #[.map (some b)] 189):=
 (callsIn_wide (n:=5)).1 (AnyZI.keys_in Tryz.SE Fence.wide 5 trivial rfl (some b) a)
theorem E7{g:Type}(d i b:Nat)(a:DataW g)(l:eS->Option (DataW g×List MemPlace))(c:eI)(m:c.ownsMap prog 3 l d i a)(j:eQ c b 189 #[.map (some d)])(u:Maps.size a<=10000):
 Calls prog 45 #[.func (.func 81) #[] #[fw b]] c (uY c a):=by
 have o:SeqGives Fence.wide 2 prog 81 #[fw b] encZ (λf=>f.Perm (intKeys a)) (Maps.size a) c:=
  AnyZI.keys_gives (ρ:=Tryz.BE) {Tryz.SE with} Fence.wide _ trivial rfl (by omega) b d i a _ j.lt (j.cell 0 rfl) m
 have k:=AnyZI.sorted_in Tryz.CQ Fence.wide 5 trivial trivial trivial trivial rfl (by omega) (Tryz.G' _) (enters_of func74 (by kernel_rfl) rfl) 81 #[fw b] trivial (enters_of func81 (by kernel_rfl) rfl) _ _ (by unfold maxLen;omega) (by omega) _ o;change CallsIn _ _ prog 45 _ _ _ at k;refine((callsIn_wide (n:=5)).1 k).mono ?_;rintro e v ⟨p,f,rfl,r,s,_,t⟩;exact⟨p,f,rfl,r,s,t⟩
end
end
section
variable{w v u:eI}{n k m i j p b c d g B K G:Nat}{x y z:eS}{D E F:Int}{A C H I:fE}{l J:fY}{r s t:fe}{f:ik}{a:Act}{kB:List (eS×fS)}{kE:Oper}{kG:Array Oper}{kK:DataW eS}{kM:fS}{kO:mB}
section
open Go.RowKit Go.Maps
theorem rl.TK{l:Nat->eS}(h:rl kK r l)(m:r.Nodup){n:eI}{o:eS->Option (DataW eS×List MemPlace)}{p s:Nat}(f:n.ownsMap prog 3 o p s kK):(eM r).Perm (Go.intKeys kK)/\Maps.size kK=r.length:=by
 obtain⟨g,i,t,_⟩:=f.entries qI;obtain⟨u,j,v⟩:=f.keysOf;obtain rfl:g=u:=by rw[i] at j;simpa using j
 subst i;have b:(eM r).Perm (Go.intKeys (.map g)):=perm_intKeys t (λw b=>by obtain⟨z,x⟩:=v w b;obtain⟨k,_,a,_⟩:=Maps.keyOf_i64 underlying3 x;exact⟨k,a⟩)
  (OM.2 (m.imp λy e=>y (Int.ofNat.inj e))) (λk=>by
    constructor
    ·intro a;obtain⟨c,d,rfl⟩:=fy.1 a;exact(h.at_ c d).1
    ·intro a;obtain⟨c,d,e⟩:=h.only _ a;simp only[kI,IS,ky] at e;subst e;exact fy.2 ⟨c,d,rfl⟩)
 refine⟨b, ?_⟩;have:=b.length_eq;simp only[eM,gW,Go.intKeys] at this;rw[Maps.size_eq,<-this]
def VP(w:eI)(ks:fe)(e:Ending)(w':eI):Prop:=∃A c ls,e=fH (.slice A ls.length c)/\ls.Perm ks/\w'.ownsRow w 3 1 (.slice A ls.length c) ls.length (ints (eM ls))/\eF w w'
theorem uY.V'{e:Ending}(h:uY w kK e v)(o:(eM r).Perm (Go.intKeys kK)):VP w r e v:=by
 obtain⟨A,c,rfl,p,j,s⟩:=h;have m:(c.mergeSort (λa d=>decide (a<=d))).Perm (eM r):=((ON c _).trans p).trans o.symm;have n:(c.mergeSort (λa d=>decide (a<=d))).length=c.length:=List.length_mergeSort c;generalize c.mergeSort (λa d=>decide (a<=d))=b at*;have t:∀b:fS,(∀a∈b,∃f:Nat,a=f)->∃g:fe,eM g=b:=by
  intro b;induction b with
  |nil=>exact λ_=>⟨[],rfl⟩
  |cons i b u=>intro h;obtain⟨f,rfl⟩:=h i (gM ..);obtain⟨g,e⟩:=u (λa k=>h a (gD _ k));exact⟨f::g,by rw[<-e];rfl⟩
 obtain⟨g,rfl⟩:=t b (λa k=>by obtain⟨f,_,rfl⟩:=fy.1 (m.mem_iff.1 k);exact⟨f,rfl⟩)
 rw[fv] at n;rw[<-n] at j;obtain⟨x,y,rfl⟩:=eR j;refine⟨x,y,g,rfl, ?_,j,s⟩;have z:∀i l:fe,(eM i).Perm (eM l)->i.Perm l:=λi l h=>by have:=h.map Int.toNat;simpa[eM,jL,Function.comp_def] using this
 exact z _ _ m
end
section
open Go.RowKit Pl
theorem tV(g:fS)(l B:fE)(c u n:Nat)(d:eI)(m:g.length=n)(f:n<=140737488351232)(o:Rd d l (ints g))(p:Rd d B (ints g)):
 Calls prog 12 #[.slice l n c,.slice B n u] d λe v=>e=fH (fz true)/\eF d v:=by
 have r:=eD m;have w:=eD o;have x:=eD p;clear m o p;go_in;go_wp2;go_loopw [5] (λi wr=>∃a:Nat,a<=n/\i=eE a/\eF d wr) (λi _=>n- (intOf i).toNat)
 case atStart=>exact⟨0,eX _,rfl,eF.refl _⟩
 case round=>
  obtain⟨a,C,rfl,s⟩:=hrel;have j:=eD s;clear s;by_cases t:a<n
  ·obtain⟨ab,D,y,_,k⟩:=w.int (i:=a) (by rw[r];exact t);obtain⟨E,F,z,_,f⟩:=x.int (i:=a) (by rw[r];exact t);subst y z;replace k:=j.cell k;replace f:=j.cell f;generalize g.getD a 0=G at*;have H:∀b:EW wr,b.w.cell? _=_:=λb=>b.cell k;have I:∀b:EW wr,b.w.cell? _=_:=λb=>b.cell f;clear k f;go_wp2;refine lT ?_;repeat(go_big_quiet_step (fail))
   refine eO ?_;rintro J ⟨A,rfl⟩;go_wp2;go_roundw
   case rel=>exact⟨a+1,by omega,by go_num,j.trans A.ext⟩
   case measure=>simp[intOf];omega
  ·go_wp2;go_ret;exact⟨rfl,j⟩
end
section
open Go.RowKit Go.Maps
theorem Hl{a:TL}(h:Eg w n k a){id d:Int}{f:Nat}(gO:0<=id/\id<16)(i:At (Cj a.iQ) (.int .i64 id) (.agg #[.int .i64 d,.map (some f)])):
 Calls prog 27 #[.pointer (some ⟨k,0,none⟩),.int .i64 id] w λe b=>e=.returned (.slice none 0 0)/\eF w b:=by
 have j:=(sE h.rj qI underlying191 (zeroValue187 w) (key:=.int .i64 id) (kl:=.int .i64 id) (kZ _ (by omega)) i).1;have u:=h.eH.ce 2 (.map (some a.m3));have v:=h.eH.ce 0 (.map (some a.m1));have x:=h.eH.lt;have l:=eD (λb (c:eF w b) q (p:eQ b q 189 #[.map (some a.m1)])=>E7 a.m1 0 q (.map []) rV b (c.lD h.rS) p (by show 0<=10000;omega));clear i h;go_in;go_wp2_with (refine y j (by intro a;rfl) ?_)
 have g:=eF.alloc w (eN #[eE d,.map (some f)] 187);generalize w.alloc (eN #[eE d,.map (some f)] 187)=r at*;refine(K8 a.m1 r).mono ?_;rintro e z ⟨rfl,rfl⟩;go_wp2_with fail
 refine(l _ (g.trans (eF.alloc _ _)) _ (eQ.new _ _ _)).mono ?_;rintro e A ⟨B,C,rfl,m,o,c⟩;have s:=List.Perm.eq_nil m;subst s;obtain⟨D,E,rfl⟩:=eR o;have t:=eD ((g.trans (eF.alloc _ _)).trans c);clear m o c g l j;go_wp2;refine wp_loop_rounds 1 ?_;rw[rounds_succ];go_wp2;go_ret;exact⟨rfl,t⟩
