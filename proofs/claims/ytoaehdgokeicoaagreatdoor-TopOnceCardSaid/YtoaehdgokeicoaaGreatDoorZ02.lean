/- TopOnce: part 2 of the proof. -/
import Derived.Great.BuildSlice
import Derived.Lib.CountLaws
import Derived.Lib.Hide
import Derived.Shelf.SlSortCmp.Whole1
import Derived.Shelf.SlicesE.DeleteFunc
import Derived.Shelf.Strings.LastIndex
import Derived.Shelf.Strings.OnBuilder
import Derived.Test.YtoaehdgokeicoaaGreatDoorProg
import Derived.WalkSpells
import Derived.Test.YtoaehdgokeicoaaGreatDoorZ01
import Derived.Test.YtoaehdgokeicoaaGreatDoorA1
set_option maxRecDepth 100000
set_option maxHeartbeats 30000000
set_option linter.all false
namespace Go.Proofs.YtoaehdgokeicoaaGreatDoor
open K9 Z9 Go.Proofs.Tryz
section
variable{w v u W V U:eI}{n k m i j p b c d g N B K G M:Nat}{x y z X Y Z:eS}{D E F:Int}{A C H I:fE}{l L J T:fY}{r s t R S:fe}{f:ik}{a:Act}{O P Q:List Oper}{kE:Oper}{kG:Array Oper}{kJ:kx}
namespace Pl
def pQ(h:Int)(b:UInt8):Int:=(33*h+(b.toNat:Int))%4294967296
def kn(h:Int)(l:gh):Int:=l.foldl pQ h
theorem B2(h:Int)(a b:gh):kn h (a++b)=kn (kn h a) b:=by unfold kn;rw[Dk]
theorem Mm(h:Int)(a:gh)(b:0<=h)(c:h<4294967296):0<=kn h a/\kn h a<4294967296:=by
 unfold kn;induction a generalizing h with
 |nil=>exact⟨b,c⟩
 |cons f a d=>exact d _ (by unfold pQ;omega) (by unfold pQ;omega)
theorem Jk(a:jw)(b:Nat)(h:b<a.size):a.data.toList.take (b+1)=a.data.toList.take b++[a[b]]:=by rw[iz (by simpa using h)];rfl
theorem F0(h:Int)(a:jw)(b:Nat)(c:b<a.size):
 kn h (a.data.toList.take (b+1))=pQ (kn h (a.data.toList.take b)) a[b]:=by rw[Jk a b c,B2];rfl
theorem Qj{a:IntKind}(h:D=E):Ending.returned (.int a D)=fH (.int a E):=by rw[h]
end Pl
section
open Go.RowKit Pl
theorem ui(a:jw)(d:eI)(f:a.size<=maxLen):
 Calls prog 233 #[eV a] d λe g=>e=fH (.int .u32 (kn 5381 a.data.toList))/\d=g:=by
 unfold maxLen at f;go_in;go_wp2;go_loop [3,7] (λh c=>∃b:Nat,b<=a.size/\c=eE b/\h=.int .u32 (kn 5381 (a.data.toList.take b))) (λ_ c=>a.size- (intOf c).toNat)
 case atStart=>exact⟨0,eX _,rfl,rfl⟩
 case round=>
  obtain⟨b,k,rfl,rfl⟩:=hrel;by_cases i:b<a.size
  ·have j:Hid (kn 5381 (a.data.toList.take (b+1))=_):=F0 5381 a b i;go_wp2;go_round
   case rel=>exact⟨b+1,by omega,by go_num,by rw[j];unfold pQ;go_num⟩
   case measure=>simp[intOf];omega
  ·go_wp2;go_ret;exact⟨Qj (by rw[mZ (by simp;omega)]),rfl⟩
end
namespace Pl
def ry(n:Int):Bool:=n==1||n==2||n==4||n==8||n==16||n==32||n==64
def kV(n sh:Int):Bool:=ry n&&decide (1<=sh)&&decide (sh<=31)
def mE(sh h:Nat):Nat:=2^(h%64)|||2^((h/2^sh)%64)
def F1(sh:Nat)(ws:fe)(h:Nat):fe:=
 ws.set (h/64%ws.length) (ws.getD (h/64%ws.length) 0|||mE sh h)
def kf(sh:Nat)(ws:fe)(hs:fe):fe:=hs.foldl (F1 sh) ws
def vm(sh:Nat)(ws:fe)(h:Nat):Bool:=
 ws.getD (h/64%ws.length) 0&&& mE sh h != mE sh h
theorem vo(a b:Nat)(f:a<9223372036854775808)(g:b<9223372036854775808):
 bits .and .i64 (a:Int) (b:Int)=((a&&& b:Nat):Int):=by
 have i:a&&& b<2^63:=Nat.and_lt_two_pow _ (by omega);have c:(BitVec.ofInt 64 (a:Int)).toNat=a:=by rw[Qk,Ql];exact ww (by omega)
 have d:(BitVec.ofInt 64 (b:Int)).toNat=b:=by rw[Qk,Ql];exact ww (by omega)
 show IntKind.i64.wrap ((BitVec.ofInt 64 (a:Int)&&& BitVec.ofInt 64 (b:Int)).toNat:Int)=_;rw[BitVec.toNat_and,c,d,IntWalk.i64_in];omega
theorem tA:∀a:Nat,a<65->1<=a->bits .and .i64 (a:Int) ((a:Int)- 1)=((a&&& (a- 1):Nat):Int):=by decide
theorem xP:∀a:Nat,a<65->1<=a->(((a&&& (a- 1):Nat):Int) != 0)= !ry a:=by decide
theorem vp(b:1<=D)(c:D<=64):(bits .and .i64 D (D- 1) != 0)= !ry D:=by obtain⟨a,rfl⟩:=Dl (by omega:0<=D);rw[tA a (by omega) (by omega),xP a (by omega) (by omega)]
theorem uj(h:ry D=true):D=1\/D=2\/D=4\/D=8\/D=16\/D=32\/D=64:=by simp[ry] at h;omega
theorem F2(h:ry n=true):∃a,a<=6/\n=2^a:=by
 rcases uj h with h|h|h|h|h|h|h
 ·exact⟨0,by omega,by omega⟩
 ·exact⟨1,by omega,by omega⟩
 ·exact⟨2,by omega,by omega⟩
 ·exact⟨3,by omega,by omega⟩
 ·exact⟨4,by omega,by omega⟩
 ·exact⟨5,by omega,by omega⟩
 ·exact⟨6,by omega,by omega⟩
theorem qo(h:kV D E=true):ry D=true/\1<=E/\E<=31:=by simp only[kV,pC,jh] at h;exact⟨h.1.1,h.1.2,h.2⟩
theorem oJ{n:Int}(h:kV n D=true):1<=n/\n<=64/\1<=D/\D<=31:=by have a:=qo h;have:=uj a.1;omega
theorem Dm(b:Nat)(a:fe)(h:Nat):(F1 b a h).length=a.length:=by simp[F1]
theorem sV(c:Nat)(b:fe):∀a:fe,(kf c a b).length=a.length:=by
 unfold kf;induction b with
 |nil=>intro a;rfl
 |cons h b d=>intro a;rw[nK,d,Dm]
theorem pR{b:Type}{d:b}{a:List b}{i:Nat}(h:i<a.length):a.getD i d∈a:=by rw[jx,gg h];exact eU _
theorem xQ(a:fe)(b:Nat)(h:b<a.length):a.take (b+1)=a.take b++[a.getD b 0]:=by rw[iz h,jx,gg h];rfl
theorem Dn(a:Nat)(b c:fe)(h:Nat):kf a b (c++[h])=F1 a (kf a b c) h:=by unfold kf;rw[Dk];rfl
theorem Do(a h:Nat):mE a h<18446744073709551616:=by unfold mE;exact Mn (n:=64) (Al (by omega) (pS _ (by omega))) (Al (by omega) (pS _ (by omega)))
theorem Qm(f:Nat)(b:fe)(h:Nat)(g:∀a∈b,a<18446744073709551616):∀a∈F1 f b h,a<18446744073709551616:=by
 intro a c;unfold F1 at c;rcases qR c with c|rfl
 ·exact g a c
 ·refine Mn (n:=64) ?_ (Do f h);rcases m0 (h/64%b.length) b with d|d
  ·exact g _ (pR d)
  ·rw[jx,tB d];simp
theorem Jl(d:Nat)(b:fe):∀a:fe,(∀c∈a,c<18446744073709551616)->∀c∈kf d a b,c<18446744073709551616:=by
 unfold kf;induction b with
 |nil=>intro a h;exact h
 |cons h b f=>intro a g;rw[nK];exact f _ (Qm d a h g)
end Pl
section
open Go.RowKit Pl
theorem kj(h:x=y):Ending.returned x=fH y:=by rw[h]
theorem sr(c:fE)(n d:Nat)(b:Int)(a:eI)(h:kV n b=true):
 Calls prog 234 #[fV #[.slice c n d,eE b]] a λe f=>e=fH (eE 0)/\Below a a f:=by
 have g:=oJ h;have i:(bits .and .i64 (n:Int) ((n:Int)- 1) != 0)=false:=by rw[vp (by omega) (by omega),(qo h).1];rfl
 go_in;go_wp2;go_ret;exact⟨rfl,(ru _ _).alloc (fJ _) _⟩
theorem Dp(g:fE)(a i:Nat)(b:Int)(d:eI)(j:a<=maxLen)(h:kV a b=false):
 Calls prog 234 #[fV #[.slice g a i,eE b]] d λe k=>e=fH (eE 20)/\Below d d k:=by
 unfold maxLen at j;by_cases n:a<1
 ·go_in;go_wp2;go_ret;exact⟨rfl,(ru _ _).alloc (fJ _) _⟩
 by_cases o:64<a
 ·go_in;go_wp2;go_ret;exact⟨rfl,(ru _ _).alloc (fJ _) _⟩
 cases c:ry a
 ·have l:(bits .and .i64 (a:Int) ((a:Int)- 1) != 0)=true:=by rw[vp (by omega) (by omega),c];rfl
  clear h c;go_in;go_wp2;go_ret;exact⟨rfl,(ru _ _).alloc (fJ _) _⟩
 ·have l:(bits .and .i64 (a:Int) ((a:Int)- 1) != 0)=false:=by rw[vp (by omega) (by omega),c];rfl
  have f:b<1\/(1<=b/\31<b):=by
   by_cases m:b<1
   ·exact .inl m
   ·refine .inr ⟨by omega, ?_⟩;simp[kV,c] at h;omega
  clear h c;rcases f with f|⟨f,p⟩
  ·go_in;go_wp2;go_ret;exact⟨rfl,(ru _ _).alloc (fJ _) _⟩
  ·go_in;go_wp2;go_ret;exact⟨rfl,(ru _ _).alloc (fJ _) _⟩
theorem Am(j:fE)(n k:Nat)(a h:Nat)(c:eI)(d:kV n a=true)(w:h<4294967296):
 Calls prog 301 #[fV #[.slice j n k,eE a],.int .u32 h] c λe l=>e=fH (fV #[eE ((h/64%n:Nat):Int),.int .u64 ((mE a h:Nat):Int)])/\Below c c l:=by
 have x:=oJ d;obtain⟨y,m,g⟩:=F2 (qo d).1;obtain⟨b,i⟩:∃b,b=h%64:=⟨_,rfl⟩;obtain⟨q,f⟩:∃q,q=h/2^a%64:=⟨_,rfl⟩;have o:b<64:=by omega
 have p:q<64:=by omega
 have r:(2:Nat)^b<2^64:=Al (by omega) o;have s:(2:Nat)^q<2^64:=Al (by omega) p;have z:0<=((h:Nat):Int)/2^a:=by rw[show((h:Nat):Int)/2^a=((h/2^a:Nat):Int) by simp];exact Mp _
 have A:((h:Nat):Int).tmod 64=(b:Int):=by rw[Qn (by omega)];omega
 have B:(((h:Nat):Int)/2^a).tmod 64=(q:Int):=by rw[show((h:Nat):Int)/2^a=((h/2^a:Nat):Int) by simp,Qn (Mp _),f];rfl
 have C:bits .or .u64 (IntKind.u64.wrap ((2:Int)^b)) (IntKind.u64.wrap ((2:Int)^q))=((mE a h:Nat):Int):=by
  rw[show((2:Int)^b)=((2^b:Nat):Int) by simp,show((2:Int)^q)=((2^q:Nat):Int) by simp,IntWalk.u64_in _ ⟨Mp _,by omega⟩,IntWalk.u64_in _ ⟨Mp _,by omega⟩,
   bits_or_u64_nat _ _ (by omega) (by omega),i,f];rfl
 have D:bits .and .i64 ((h:Int)/64) ((n:Int)- 1)=((h/64%n:Nat):Int):=by rw[show((h:Nat):Int)/64=((h/64:Nat):Int) by omega,show(n:Int)- 1=((n- 1:Nat):Int) by omega,vo _ _ (by omega) (by omega),g,Nat.and_two_pow_sub_one_eq_mod]
 generalize mE a h=t at*;generalize h/64%n=u at*;clear g m i f d r s;go_in;go_wp2;go_region
 go_wp2;exact iA (v:=fV #[eE u,.int .u64 t]) (by simp[results,results301,go_sem]) rfl ⟨rfl,(((ru _ _).alloc (fJ _) _).alloc (by simp) _).drew⟩
end
namespace Pl
def iS(size:Int):Bool:=size==1||size==2||size==4||size==8
def iu(n size:Int):Bool:=size==8||(decide (0<=n)&&decide (n<2^(8*size).toNat))
def Qr(n:Int)(i:Nat):UInt8:=UInt8.ofNat (n/2^(8*i)%256).toNat
def fD(k:Nat)(n:Int):gh:=(List.range k).map (Qr n)
theorem iB(a:Nat)(b:Int):(fD a b).length=a:=by simp[fD]
theorem Au(a:Nat)(b:Int):fD (a+1) b=fD a b++[Qr b a]:=by simp[fD,un]
theorem Mt(a:Int)(b:Nat):IntKind.u8.wrap (a/2^(8*b))=((Qr a b).toNat:Int):=by rw[IntKind.wrap_u8];unfold Qr;have c:0<=a/2^(8*b)%256:=Qs _ (by omega);have d:a/2^(8*b)%256<256:=Qt _ (by omega);rw[HU,ww (by omega)];omega
abbrev WS:=Int×gh
def iX(st:WS)(e:Int):WS:=if st.1=0 then(e,st.2) else st
def wX(st:WS)(bs:gh):WS:=if st.1=0 then(st.1,st.2++bs) else st
def ln(size:Int)(st:WS)(n:Int):WS:=if st.1=0 then(if iu n size then(0,st.2++fD size.toNat n) else(10,st.2)) else st
def ma(size:Int)(st:WS)(ns:fS):WS:=ns.foldl (ln size) (if iS size then st else iX st 1)
def nM(st:WS)(s:gh):WS:=if st.1=0 then(if s.length<=4096 then(0,st.2++(fD 2 s.length++s)) else(2,st.2)) else st
def oQ(st:WS)(ss:List gh):WS:=ss.foldl nM st
def tE(st:WS)(b:gh):WS:=if st.1=0 then(if b.length<=1048576 then(0,st.2++(fD 4 b.length++b)) else(2,st.2)) else st
theorem jB{size:Int}(h:iS size=true):size=1\/size=2\/size=4\/size=8:=by simp[iS] at h;omega
theorem F4{size:Int}(h:iS size=false):size≠1/\size≠2/\size≠4/\size≠8:=by simp[iS] at h;omega
end Pl
section
open Go.RowKit Pl
theorem Mz(d:fE)(a f:Nat)(c h:Int)(b:eI)(g:a<=maxLen)(i:kV a c=false):
 Calls prog 237 #[fV #[.slice d a f,eE c],.int .u32 h] b λe j=>e=fH (fz false)/\Below b b j:=by
 go_in;go_wp2_with (go_at_call 234;refine(Dp _ _ _ _ _ g i).mono ?_;rintro e l ⟨rfl,k⟩)
 go_ret;exact⟨rfl,((ru _ _).alloc (fJ _) _).trans (k.mono (by simp))⟩
theorem Jv(m:fE)(f:Nat)(b h:Nat)(a:fe)(c:eI)(u:h<4294967296)(o:∀v∈a,v<18446744073709551616)(p:Rd c m (kq a))(j:kV a.length b=true):
 Calls prog 237 #[fV #[.slice m a.length f,eE b],.int .u32 h] c λe w=>e=fH (fz (vm b a h))/\Below c c w:=by
 have D:=oJ j;have r:h/64%a.length<a.length:=pS _ (by omega);have x:mE b h<18446744073709551616:=by unfold mE;exact Mn (n:=64) (Al (by omega) (pS _ (by omega))) (Al (by omega) (pS _ (by omega)))
 obtain⟨g,k,rfl,E,y⟩:=p.u64 r;have z:a.getD (h/64%a.length) 0<18446744073709551616:=by rw[jx,gg r];exact o _ (eU _)
 have F:bits .and .u64 ((a.getD (h/64%a.length) 0:Nat):Int) ((mE b h:Nat):Int)=((a.getD (h/64%a.length) 0&&& mE b h:Nat):Int):=
  bits_and_u64_nat _ _ z x
 have G:(((a.getD (h/64%a.length) 0&&& mE b h:Nat):Int) != ((mE b h:Nat):Int))=vm b a h:=by unfold vm;rw[Qw,H',H'];exact not_congr Int.ofNat_inj
 have s:=Am (some (eJ g k)) a f b h;have t:=sr (some (eJ g k)) a f b;generalize a.getD (h/64%a.length) 0&&& mE b h=H at*;generalize a.getD (h/64%a.length) 0=I at*;generalize mE b h=J at*;generalize vm b a h=K at*;generalize h/64%a.length=L at*;have A:=eD s;have B:=eD t;clear s t p o;go_in;go_wp
 refine(B _ j).mono ?_;rintro e M ⟨rfl,d⟩;have N:=R5 d;have C:=d.size;simp at C;go_wp21
 refine(A _ j u).mono ?_;rintro e l ⟨rfl,i⟩;have O:=i.size;have P:l.cell? (eJ c 0)=some (.slice (some (eJ g k)) a f):=Ak i (Ak d (Df _ _ _ 0 rfl) (by simp)) (by omega);have Q:=Ak i (Ak d (Vz y) (by simp;omega)) (by omega);have R:c.heap.size<l.heap.size:=by omega
 have S:g<l.heap.size:=by omega
 go_wp2;go_region
 go_wp2;go_ret;exact⟨rfl,(((((ru _ _).alloc (fJ _) _).trans (d.mono (by simp))).trans (i.mono (by omega))).alloc (by omega) _).drew⟩
end
section
open Go.RowKit
section
section
variable {P:Program} {ops:Array Oper} {rest:List Oper} {o:Oper} {a:Act} {w:eI} {Q:Exit->Act->eI->Prop}
def S7(d:TypeDesc):Bool:=match d with| .struct _| .array _ _=>true|_=>false
theorem jo(w:eI)(g d:Nat)(a:ik)(b:fY)(f:TypeDesc)(k:∀i (h:i<b.length),w.cell? (eJ g (d+i))=some b[i])(l:P.underlying a=some f)(m:S7 f=true)(c:(P.info? a).map (·.size)=some b.length):(loadVar a (eJ g d)).run P w=.ok (fV b.toArray) w:=by
 have n:(sizeOf a).run P w=.ok b w:=by
  cases j:P.info? a with
  |none=>rw[j] at c;cases c
  |some i=>rw[j] at c;simp only[qO,fd] at c;simp[sizeOf,typeInfo,j,c]
 have o:(isAgg a).run P w=.ok true w:=by simp only[isAgg,nU,Aq l,sU];cases f<;>first|rfl|cases m
 have p:=DF (P:=P) w (eJ g d) b (λr u s=>by obtain⟨t,rfl⟩:=jS.1 s;rw[P4];exact k r t)
 simp[loadVar,o,n,p]
theorem gI(x:o.guard=none)(g:ik)(n v:Operand)(y:o.op=.store g n v)(f c:Nat)(z:a.eval n=.pointer (some (eJ f c)))(j:eS)(A:a.eval v=j)(b:fY)(p:j.cells.toList=b){k:ik}{d:kx}(r:eQ w f k d)(B:∀C∈b,C.oneCell'=true)(i:(P.info? g).map (·.size)=some b.length)(I:c+b.length<=d.size)(h:∀l,eQ l f k (d.toList.take c++b++d.toList.drop (c+b.length)).toArray->w.grownBy l (some f)->wpList P ops Q rest (a.put o.dst undef) l):wpList P ops Q (o::rest) a w:=by
 refine ul x λJ D=> ?_;have E:(sizeOf g).run P w=.ok b w:=by
  cases m:P.info? g with
  |none=>rw[m] at i;cases i
  |some K=>rw[m] at i;simp only[qO,fd] at i;simp[sizeOf,typeInfo,m,i]
 have s:=MF P f c k b 0 d w r (by omega) B;rw[m5] at s;have F:j.cells.size=b.length:=by rw[<-p];simp
 have t:(storeVar g (eJ f c) j).run P w=.ok () (w.setRow f (d.toList.take c++b++d.toList.drop (c+b.length)).toArray):=by simp[storeVar,E,F,p,s]
 have u:=h _ (setRow_heap w f d _ k _ r) ⟨rfl,rfl,rfl,by simp[World.setRow],λG _ H=>MG w f G _ (λe=>H (by simp[e]))⟩;generalize(d.toList.take c++b++d.toList.drop (c+b.length)).toArray=L at t u;unfold Oper.wp;simp[execOp,y,z,A,Instr.storeAt,Instr.sureAddr,t,Result.andThen];exact D _ _ u
end
end
end
def hH:List gh->gh
 |[]=>[]
 |[p]=>p
 |p::q::r=>p++47::hH (q::r)
theorem pF(a:gh)(b:UInt8)(h:b∉a):Lib.indexByte a b= -1:=by
 induction a with
 |nil=>rfl
 |cons f a c=>simp only[fm,wJ] at h;have d:=mn.2 λe=>h.1 e.symm;simp[Lib.indexByte,d,c h.2]
theorem Cc(a c:gh)(b:UInt8)(h:b∉a):Lib.indexByte (a++b::c) b=a.length:=by
 induction a with
 |nil=>simp[Lib.indexByte]
 |cons j d f=>simp only[fm,wJ] at h;have g:=mn.2 λe=>h.1 e.symm;have i:((d.length:Int)== -1)=false:=mn.2 (by omega);simp only[nO,Lib.indexByte,g,f h.2,i,Dc,ua,iw];omega
theorem yk:∀b:List gh,b≠[]->(∀a∈b,(47:UInt8)∉a)->(hH b).count 47+1=b.length
 |[a],_,h=>by simp[hH,List.count_eq_zero.2 (h a (by simp))]
 |a::q::c,_,h=>by have:=yk (q::c) (by simp) (λd f=>h d (gD _ f));simp only[hH,List.count_append,List.count_cons,List.count_eq_zero.2 (h a (by simp)),iw] at this ⊢;simp at this ⊢;omega
theorem pZ:∀a:List gh,a.length<=(hH a).length+1
 |[]=>by simp
 |[b]=>by simp
 |b::q::c=>by have:=pZ (q::c);simp only[hH,fT,iw] at this ⊢;omega
end
end Go.Proofs.YtoaehdgokeicoaaGreatDoor
namespace Go.Proofs
section
open Go.Shelf
def Tryz.DT:Go.Shelf.Ren:=⟨fun|170=>382|n=>n,fun|70=>545|3=>3|0=>0|72=>547|37=>61|5=>5|n=>n,fun|n=>n⟩
theorem Tryz.QJ:Go.Proofs.Lays.n170 Tryz.prog Tryz.DT:=by constructor<;>first|kernel_rfl|(intro _;kernel_rfl)|exact Tryz.func382.trans (congrArg some (by kernel_rfl))
open Go.RowKit in
theorem Tryz.Builder_Len (d b:Nat) (c:List Value) (a:World) (h:Lib.IsBuilder 547 5 d b c a):
 Calls Tryz.prog 382 #[.pointer (some ⟨b,0,none⟩)] a λe f=>e=.returned (.int .i64 c.length)/\f=a:=Any.Builder_Len Tryz.QJ d b c a h
def Tryz.wK:Go.Shelf.Ren:=⟨fun|169=>383|n=>n,fun|70=>545|9=>9|0=>0|72=>547|37=>61|127=>556|3=>3|5=>5|n=>n,fun|n=>n⟩
theorem Tryz.Cf:Go.Proofs.Lays.n169 Tryz.prog Tryz.wK:=by constructor<;>first|kernel_rfl|(intro _;kernel_rfl)|exact Tryz.func383.trans (congrArg some (by kernel_rfl))
theorem Tryz.mJ:Builder.Extra Tryz.prog Tryz.wK:={
 sizeBuilder:=by kernel_rfl
 liesBuilder:=by kernel_rfl
 t5:=Tryz.underlying5
 a5:=Tryz.isAgg5
 z5:=Tryz.sizeOf5
 v5:=Tryz.zeroValue5
 infoByte:=by kernel_rfl
 cellsByte:=by kernel_rfl
 sizeByte:=by kernel_rfl
 neB5:=by decide}
open Go.RowKit in
theorem Tryz.Builder_String (c d:Nat) (a:List UInt8) (b:World) (h:Lib.IsBuilder 547 5 c d (Lib.byteCells a) b) (f:a≠[]):
 Calls Tryz.prog 383 #[.pointer (some ⟨d,0,none⟩)] b λe g=>e=.returned (.string ⟨a.toArray⟩)/\Below c b g:=Any.Builder_String Tryz.Cf Tryz.mJ c d a b h f
open Go.RowKit in
theorem Tryz.Builder_String_empty (b c:Nat) (a:World) (h:Lib.IsBuilder 547 5 b c [] a) (d:b<=a.heap.size):
 Calls Tryz.prog 383 #[.pointer (some ⟨c,0,none⟩)] a λe f=>e=.returned (.string ⟨#[]⟩)/\Below b a f:=Any.Builder_String_empty Tryz.Cf Tryz.mJ b c a h d
open Go.RowKit in
theorem Tryz.Builder_String_any (b c:Nat) (d:List UInt8) (a:World) (h:Lib.IsBuilder 547 5 b c (Lib.byteCells d) a) (f:b<=a.heap.size):
 Calls Tryz.prog 383 #[.pointer (some ⟨c,0,none⟩)] a λe g=>e=.returned (.string ⟨d.toArray⟩)/\Below b a g:=Any.Builder_String_any Tryz.Cf Tryz.mJ b c d a h f
def Tryz.wL:Go.Shelf.Ren:=⟨fun|156=>387|165=>389|166=>381|169=>383|240=>386|241=>390|276=>388|277=>391|n=>n,fun|31=>47|9=>9|3=>3|4=>4|0=>0|20=>20|72=>547|76=>550|70=>545|37=>61|75=>549|127=>556|164=>558|5=>5|80=>525|n=>n,fun|n=>n⟩
theorem Tryz.Cg:Go.Proofs.Lays.n156 Tryz.prog Tryz.wL:=by constructor<;>first|kernel_rfl|(intro _;kernel_rfl)|exact Tryz.func387.trans (congrArg some (by kernel_rfl))|exact Tryz.func389.trans (congrArg some (by kernel_rfl))|exact Tryz.func381.trans (congrArg some (by kernel_rfl))|exact Tryz.func383.trans (congrArg some (by kernel_rfl))|exact Tryz.func386.trans (congrArg some (by kernel_rfl))|exact Tryz.func390.trans (congrArg some (by kernel_rfl))|exact Tryz.func388.trans (congrArg some (by kernel_rfl))|exact Tryz.func391.trans (congrArg some (by kernel_rfl))
theorem Tryz.mK:Builder.Extra Tryz.prog Tryz.wL:={
 sizeBuilder:=by kernel_rfl
 liesBuilder:=by kernel_rfl
 t5:=Tryz.underlying5
 a5:=Tryz.isAgg5
 z5:=Tryz.sizeOf5
 v5:=Tryz.zeroValue5
 infoByte:=by kernel_rfl
 cellsByte:=by kernel_rfl
 sizeByte:=by kernel_rfl
 neB5:=by decide}
open Go.RowKit in
theorem Tryz.strings_Join_none (b:Option Addr) (c:Nat) (d:ByteArray) (a:World):
 Calls Tryz.prog 387 #[.slice b 0 c,.string d] a λe f=>e=.returned (.string ⟨#[]⟩)/\f=a:=Any.strings_Join_none Tryz.Cg Tryz.mK b c d a
open Go.RowKit in
theorem Tryz.strings_Join (c f g:Nat) (a:List ByteArray) (d:ByteArray) (b:World) (k:∀(i:Nat) j,a[i]? =some j->b.cell? ⟨c,f+i,none⟩=some (.string j)) (l:c<b.heap.size) (m:a.length<=140737488355328) (n:a.length<=g) (o:(Lib.join (a.map (·.data.toList)) d.data.toList).length<=140737488355328):
 Calls Tryz.prog 387 #[.slice (some ⟨c,f,none⟩) a.length g,.string d] b λe p=>e=.returned (.string ⟨(Lib.join (a.map (·.data.toList)) d.data.toList).toArray⟩)/\Below b.heap.size b p:=Any.strings_Join Tryz.Cg Tryz.mK c f g a d b k l m n o
def Tryz.DU:Go.Shelf.Ren:=⟨fun|149=>104|222=>174|n=>n,fun|9=>9|5=>5|3=>3|4=>4|n=>n,fun|n=>n⟩
theorem Tryz.QK:Go.Proofs.Lays.n149 Tryz.prog Tryz.DU:=by constructor<;>first|kernel_rfl|(intro _;kernel_rfl)|exact Tryz.func104.trans (congrArg some (by kernel_rfl))|exact Tryz.func174.trans (congrArg some (by kernel_rfl))
open Go.RowKit Go.Lib in
theorem Tryz.strings_LastIndexByte (a:ByteArray) (b:Int) (d:a.size<4611686018427387904) (c:World):
 Calls Tryz.prog 104 #[.string a,.int .u8 b] c λe f=>e=.returned (.int .i64 (Lib.lastIndexByte a b))/\f=c:=Any.strings_LastIndexByte Tryz.QK a b d c
def Tryz.tH:Go.Shelf.Ren:=⟨fun|10=>199|6=>278|n=>n,fun|22=>23|23=>3|25=>32|3=>3|4=>4|0=>0|n=>n,fun|n=>n⟩
theorem Tryz.yl:Go.Proofs.SlLaysH.n10 Tryz.prog Tryz.tH:=by constructor<;>first|kernel_rfl|(intro _;kernel_rfl)|exact⟨Tryz.f278.name,by decide,Tryz.func278.trans (congrArg some (by kernel_rfl))⟩|exact⟨Tryz.f199.name,by decide,Tryz.func199.trans (congrArg some (by kernel_rfl))⟩
open Go.RowKit Go.Lib Go.Sort in
theorem Tryz.slices_DeleteFunc {j:Type} [Inhabited j] (c:j->Value) (o:OneCell c) (d:j->Bool) (f:Nat) (l:Array Value) (p:∀args a,(callFunc f args).run Tryz.prog a=.ok (.enter f args) a) (n:j) (r:∀a,(zeroValue 3).run Tryz.prog a=.ok (c n) a) (g i m:Nat) (b:Array j) (a:World) (s:PredAt Tryz.prog f l c d a) (t:PredOver Tryz.prog f l c d g i b.size a) (u:Holds c a g i b) (v:b.size<=9223372036854775807) (w:b.size<=m):
 Calls Tryz.prog 199 #[.slice (some ⟨g,i,none⟩) b.size m,.func (.func f) #[] l] a λe x=>e=.returned (.slice (some ⟨g,i,none⟩) (b.toList.filter λk=> !d k).length m)/\∃q,x=putRow c (Sort.ahead a q) g i ((b.toList.filter λk=> !d k)++List.replicate (b.size- (b.toList.filter λk=> !d k).length) n).toArray:=AnyE.slices_DeleteFunc Tryz.yl c o d f l p n r g i m b a s t u v w
open Go.RowKit in
theorem Tryz.Builder_WriteString (a b:Nat) (f:List Value) (c:ByteArray) (d:World) (h:Lib.IsBuilder 547 5 a b f d) (i:f.length+c.size<=140737488355328) (j:a<=d.heap.size):
 Calls Tryz.prog 381 #[.pointer (some ⟨b,0,none⟩),.string c] d λe g=>e=.returned (.tuple #[.int .i64 c.size,.nilIface])/\(Lib.BuilderAt 547 5 a b (.pointer (some ⟨b,0,none⟩)) (f++Lib.strCells c) g/\Below a d g):=Any.Builder_WriteString {Tryz.Cg with} Tryz.mK a b f c d h i j
end
end Go.Proofs
namespace Go.Proofs.YtoaehdgokeicoaaGreatDoor
open K9 Z9 Go.Proofs.Tryz
section
open Go.RowKit Pl
theorem D9:(prog.info? 270).map (λi=>(i.zero,i.size,i.bytes))=some (some (.int .u64 0),1,8):=by kernel_rfl
def Ir(W:eI)(n:Nat)(sh:Int)(xs:fe)(e:Ending)(w':eI):Prop:=
 ∃g c,e=fH (ij #[fV #[fN g n c,eE sh],eE 0])/\
  w'.ownsRow W 270 1 (fN g n c) n (kq xs)/\Below W W w'
theorem QR(R:fE)(x:Nat)(c:Nat)(a:fe)(S:fE)(ah:Nat)(f:fe)(b:eI)(T:∀J∈a,J<18446744073709551616)(U:∀J∈f,J<4294967296)(ai:f.length<=maxLen)(K:Rd b R (kq a))(V:Rd b S (ud f))(L:kV a.length c=true):
 Calls prog 235 #[fV #[.slice R a.length x,eE c],.slice S f.length ah] b (Ir b a.length c (kf c a f)):=by
 have ay:=oJ L;unfold maxLen at ai;obtain⟨i0,aj,ak,al,am⟩:=info_parts D9;obtain⟨s,t,rfl,an,hc⟩:=K.u64 (i:=0) (by omega);have W:∀m z,(kq a)[m]? =some z->b.cell? (eJ s (t+m))=some z:=by intro m z M;obtain⟨hj,rfl⟩:=jS.1 M;obtain⟨b',az,X,ao⟩:=K m hj;simp at X;obtain⟨rfl,rfl⟩:=X;exact ao
 have HC:=eD W;have HH:=eD V;have HW:=eD T;have ap:=eD U;clear W K V T U hc;go_in;go_wp
 refine(sr _ _ _ _ _ L).mono ?_;rintro e Y ⟨rfl,A⟩;have aq:=A.size;simp at aq;have n:eQ Y b 168 #[.slice (some (eJ s t)) a x,eE c]:=((eQ.new b _ _).alloc _).below A (by simp;omega);have y:eQ Y (b.heap.size+1) 168 #[eW,eE 0]:=(by simpa using eQ.new (b.alloc (eN #[.slice (some (eJ s t)) a x,eE c] 168)) 168 #[eW,eE 0]:eQ _ (b.heap.size+1) _ _).below A (by simp);have N:=(((ru _ _).alloc (fJ _) _).alloc (by simp) _).trans (A.mono (by simp;omega));have Z:=n.ce 0 (.slice (some (eJ s t)) a x);have c1:=n.ce 1 (eE c);have f0:=n.frozen 0;have E:=eD n;have F:=eD y;clear n y;go_wp2_with (at_builtin;refine wpList_append_own _ rfl _ _ 166 rfl b 270 i0 (.int .u64 0) 1 8 underlying166 aj ak al am rfl (by decide) (eW) 0 [] rfl (ji _ _ _ _) (eJ s t) a x (kq a) rfl ?c1 ?c2 (Mh _) ?c3 ?c4 ?c5 ?_)
 case c1=>simp[kq]
 case c2=>intro m z M;rw[P4];exact(N.cell (p:=(eJ s (t+m))) an).trans (HC m z M)
 case c3=>unfold maxLen;omega
 case c4=>omega
 case c5=>omega
 intro v2 B C G ar;clear ar;obtain⟨g,l,rfl,au,aA,aB,aC⟩:=jI C (by omega);have n:=E.out.grown G (by simp[Value.ownBlock]);have y:=F.out.grown G (by simp[Value.ownBlock]);have ad:=N.grown G (by omega) (by simp[Value.ownBlock]);have n0:=vk C n (by decide);have O:=vk C y (by decide);have Z:=n.ce 0 (.slice (some (eJ s t)) a x);have f0:=n.frozen 0;have E:=eD n;have F:=eD y;clear n y;go_wp2;have r:eQ (B.setCell (eJ b 0) (fN g a l)) b 168 #[fN g a l,eE c]:=E.out.set 0 _;have o:eQ (B.setCell (eJ b 0) (fN g a l)) (b.heap.size+1) 168 #[eW,eE 0]:=F.out.ub (by simp) _;have u:(B.setCell (eJ b 0) (fN g a l)).ownsRow (b.heap.size) 270 1 (fN g a l) a (kq (kf c a (f.take 0))):=by exact qm (by simpa[kf] using C) (by simp;omega) _
 have w:Below b b (B.setCell (eJ b 0) (fN g a l)):=ad.setCell (fJ _) _;generalize B.setCell (eJ b 0) (fN g a l)=w3 at*;clear E F Z f0 C G N ad c1 A;go_loopw [19] (λi wr=>∃j:Nat,j<=f.length/\i=eE j/\eQ wr b 168 #[fN g a l,eE c]/\eQ wr (b.heap.size+1) 168 #[eW,eE 0]/\
  wr.ownsRow (b.heap.size) 270 1 (.slice (some ⟨g,0,none⟩) a.length l) a.length (kq (kf c a (f.take j)))/\Below b.heap.size b wr) (λi _=>f.length- (intOf i).toNat)
 case atStart=>exact⟨0,eX _,rfl,r,o,u,w⟩
 case round=>
  clear r o u w;obtain⟨j,hk,rfl,r,o,u,w⟩:=hrel;have d0:=r.ce 0 (fN g a l);have d1:=r.ce 1 (eE c);have r0:=o.ce 0 (eW);have r1:=o.ce 1 (eE 0);have g0:=o.frozen 0;have g1:=o.frozen 1;by_cases P:j<f.length
  ·obtain⟨b2,aD,rfl,av,Q⟩:=HH.u32 P;have Q:=Ak w Q av;have aw:=ap _ (pR (d:=0) P);have ae:=eD (xQ f j P);generalize f.getD j 0=k at*;go_wp
   refine(Am _ _ _ _ _ _ L aw).mono ?_;rintro e w4 ⟨rfl,H⟩;have I:=r.below H r.lt;have af:=o.below H o.lt;have D:=vj u H;have aE:=I.ce 0 (fN g a l);have aF:k/64%a.length<a.length:=pS _ (by omega);have ag:=sV c (f.take j) a;have dx:w4.cell? (eJ g (k/64%a.length))=some (.int .u64 (((kf c a (f.take j)).getD (k/64%a.length) 0:Nat):Int)):=by rw[D.cellAt _ (by omega),Mf _ _ (by omega)]
   have fx:=D.frozenAt (k/64%a.length);have lg:=(Me D).2;have l0:=I.lt;have ax:(kf c a (f.take j)).getD (k/64%a.length) 0<18446744073709551616:=Jl c _ a HW _ (pR (by omega));have aG:=bits_or_u64_nat _ _ ax (Do c k);have hrel:Hid (kq (kf c a (f.take (j+1)))=(kq (kf c a (f.take j))).set (k/64%a.length) (.int .u64 (((kf c a (f.take j)).getD (k/64%a.length) 0|||mE c k:Nat):Int))):=by show _=_;rw[ae.out,Dn,Mg];unfold F1;rw[ag]
   generalize(kf c a (f.take j)).getD (k/64%a.length) 0|||mE c k=aH at*
   generalize(kf c a (f.take j)).getD (k/64%a.length) 0=aI at*;generalize mE c k=aJ at*;generalize k/64%a.length=m at*;have J0:=eD I;have J1:=eD af;have JO:=eD D;clear I af D r o u d0 d1 r0 r1 g0 g1 Q ae ag;go_wp2;go_region
   go_wp2;go_roundw
   case rel=>
    refine⟨j+1,by omega,by go_num,((J0.out.ub (p:=(eJ g m)) n0 _).alloc _).drew,((J1.out.ub (p:=(eJ g m)) O _).alloc _).drew, ?_, ?_⟩
    ·rw[hrel.out];exact((JO.out.stored m _).1.alloc _).drew
    ·exact(((w.trans (H.mono w.size)).setCell (p:=(eJ g m)) au _).alloc (by simp;omega) _).drew
   case measure=>simp[intOf];omega
  ·go_wp2;exact iA (v:=ij #[fV #[fN g a l,eE c],eE 0]) (by simp[results,results235,go_sem,r0,r1]) rfl ⟨g,l,rfl,qm (p:=(eJ (b.heap.size+1) 1)) (qm (p:=(eJ (b.heap.size+1) 0)) (by rw[show f.take j=f from mZ (by omega)] at u;exact u) O.symm _) O.symm _,(w.setCell (by simp) _).setCell (by simp) _⟩
theorem M3(a f:Nat)(o:fE)(t:Nat)(i:fe)(b:eI)(u:∀w∈i,w<4294967296)(G:i.length<=maxLen)(x:Rd b o (ud i))(r:kV a f=true):
 Calls prog 157 #[eE a,eE f,.slice o i t] b (Ir b a f (kf f (List.replicate a 0) i)):=by
 have T:=oJ r;obtain⟨H,I,J,K,L⟩:=info_parts D9;have M:=eD x;have N:=eD u;clear x u;go_in;go_wp2_with (at_make;refine wpList_make_full _ rfl _ _ 166 rfl b 270 H (.int .u64 0) 1 underlying166 I J K .i64 .i64 a a a rfl rfl rfl rfl ?c1 ?c2 ?c3 ?_)
 case c1=>rw[L];omega
 case c2=>unfold maxLen;omega
 case c3=>simp;omega
 intro j y l;have c:eQ ((b.alloc (eN #[eW,eE 0] 168)).alloc (eN #[eW,eE f] 168)) b 168 #[eW,eE 0]:=(eQ.new _ _ _).alloc _;have d:eQ ((b.alloc (eN #[eW,eE 0] 168)).alloc (eN #[eW,eE f] 168)) (b.heap.size+1) 168 #[eW,eE f]:=by simpa using eQ.new (b.alloc (eN #[eW,eE 0] 168)) 168 #[eW,eE f]
 have c:=c.grown l (by simp);have d:=d.grown l (by simp);have z:=(((ru _ _).alloc (fJ _) _).alloc (by simp) _).grown l (by simp;omega) (λU h=>by cases h);have V:=d.ce 0 (eW);have W:=d.ce 1 (eE f);have f8:=d.frozen 0;have k:=eD c;have s:=eD d;clear c d l;go_wp
 have c:eQ (j.setCell (eJ (b.heap.size+1) 0) (fN (b.heap.size+1+1) a a)) b 168 #[eW,eE 0]:=k.out.ub (by simp) _;have d:eQ (j.setCell (eJ (b.heap.size+1) 0) (fN (b.heap.size+1+1) a a)) (b.heap.size+1) 168 #[fN (b.heap.size+1+1) a a,eE f]:=s.out.set 0 _;have m:(j.setCell (eJ (b.heap.size+1) 0) (fN (b.heap.size+1+1) a a)).ownsRow b 270 1 (fN (b.heap.size+1+1) a a) a (kq (List.replicate a 0)):=by
  refine qm ?_ (by simp) _;have e:(madeCells #[Value.int IntKind.u64 0] a).toList=kq (List.replicate a 0):=by rw[wI];simp[kq]
  rw[<-e];exact y
 have g:Below b b (j.setCell (eJ (b.heap.size+1) 0) (fN (b.heap.size+1+1) a a)):=z.setCell (by simp) _;generalize j.setCell (eJ (b.heap.size+1) 0) (fN (b.heap.size+1+1) a a)=X at*;clear k s y z;refine(sr _ _ _ _ _ r).mono ?_;rintro e O ⟨rfl,n⟩;have g:=g.trans (n.mono g.size);have Y:=g.size;have m:=vj m n;have c:=c.below n c.lt;have d:=d.below n d.lt;have Z:=d.ce 0 (fN (b.heap.size+1+1) a a);have ad:=d.ce 1 (eE f);have A:=eD (QR (some (eJ (b.heap.size+1+1) 0)) a f (List.replicate a 0) o t i O (λw P=>by rw[List.eq_of_mem_replicate P];omega) N G (Rd.fC m)
  (M.out.Di g (λ_ _ _ Q=>js Q)) (by rw[D8];exact r))
 rw[D8] at A;have k:=eD c;have s:=eD d;clear c d m;go_wp21
 refine A.mono ?_;rintro e w5 ⟨B,C,rfl,D,E⟩;have c:=k.out.below E k.out.lt;have R:=c.ce 0 (eW);have S:=c.ce 1 (eE 0);have g0:=c.frozen 0;have g1:=c.frozen 1;have F:=vk D c (by decide);have g:=g.trans (E.mono g.size);go_wp2;exact iA (v:=ij #[fV #[fN B a C,eE f],eE 0]) (by simp[results,results157,go_sem,R,S]) rfl ⟨B,C,rfl,qm (p:=(eJ b 1)) (qm (p:=(eJ b 0)) (fq D (by omega)) F.symm _) F.symm _,(g.setCell (fJ _) _).setCell (fJ _) _⟩
end
section
variable{w v u W V U:eI}{n k m i j p b c d g N B K G M:Nat}{x y z X Y Z:eS}{D E F:Int}{A C H I:fE}{l L J T:fY}{r s t R S:fe}{f:ik}{a:Act}{O P Q:List Oper}{kE:Oper}{kG:Array Oper}{kJ:kx}
def hJ(G:Nat->fe):Nat->Nat->fe->fe
 |0,_,_=>[]
 |f+1,n,done=>if n∈done then[] else
   ((G n).foldl (λs k=>(s.1++hJ G f k s.2,s.2++hJ G f k s.2)) ([],done++[n])).1++[n]
def j9(G:Nat->fe)(f:Nat)(s:fe×fe)(k:Nat):fe×fe:=(s.1++hJ G f k s.2,s.2++hJ G f k s.2)
theorem mc(G:Nat->fe)(f n:Nat)(done:fe):hJ G (f+1) n done=if n∈done then[] else((G n).foldl (j9 G f) ([],done++[n])).1++[n]:=rfl
def ia(E:Nat->fe):Nat->Nat->List Bool×fe->List Bool×fe
 |0,_,s=>s
 |f+1,n,s=>if s.1.getD n true=true then s else
   let t:=(E n).foldl (λs m=>ia E f m s) (s.1.set n true,s.2)
   (t.1,t.2++[n])
inductive RT (G:Nat->fe):Nat->Nat->Prop
 |refl (a:Nat):RT G a a
 |step {a b c:Nat}:RT G a b->c∈G b->RT G a c
theorem RT.head{a:Nat->fe}(h:k∈a n)(b:RT a k m):RT a n m:=by
 induction b with
 |refl=>exact .step (.refl _) h
 |step _ c d=>exact .step d c
theorem RT.mO{G:Nat->fe}{S:Nat->Prop}(d:∀c,S c->∀k∈G c,S k){a b:Nat}(h:RT G a b)(f:S a):S b:=by
 induction h with
 |refl=>exact f
 |step _ g i=>exact d _ i _ g
structure Na(G:Nat->fe)(n:Nat)(done out:fe):Prop where
 nodup:out.Nodup
 apart:∀x∈out,x∉done
 p7:∀x∈out,RT G n x
 self:n∈done++out
 mO:∀x∈out,∀k∈G x,k∈done++out
theorem vE{G:Nat->fe}{f:Nat}{n:Nat}{done:fe}:∀(g:fe) (a:fe×fe),(∀b∈g,∀t,Na G b t (hJ G f b t))->(∀b∈g,b∈G n)->
 a.2=done++[n]++a.1->a.1.Nodup->(∀c∈a.1,c∉done++[n])->(∀c∈a.1,RT G n c)->(∀c∈a.1,∀b∈G c,b∈a.2)->
 (g.foldl (j9 G f) a).2=done++[n]++(g.foldl (j9 G f) a).1/\(g.foldl (j9 G f) a).1.Nodup/\(∀c∈(g.foldl (j9 G f) a).1,c∉done++[n])/\(∀c∈(g.foldl (j9 G f) a).1,RT G n c)/\
   (∀c∈(g.foldl (j9 G f) a).1,∀b∈G c,b∈(g.foldl (j9 G f) a).2)/\(∀b∈g,b∈(g.foldl (j9 G f) a).2)/\(∀b∈a.2,b∈(g.foldl (j9 G f) a).2)
 |[],a,_,_,m,o,p,r,s=>⟨m,o,p,r,s,by simp,λb k=>k⟩
 |b::g,a,u,v,m,o,p,r,s=>by
  have k:=u b (gM ..) a.2;have l:j9 G f a b=(a.1++hJ G f b a.2,a.2++hJ G f b a.2):=rfl;obtain⟨x,y,z,A,B,C,w⟩:=vE (done:=done) (n:=n) g (j9 G f a b) (λj i=>u j (gD _ i)) (λj i=>v j (gD _ i))
   (by rw[l];simp only[m,iK])
   (by rw[l];exact kF.2 ⟨o,k.nodup,λI D E F e=>k.apart E F (by rw[m];subst e;simp[D])⟩)
   (by rw[l];intro c d;rcases gu.1 d with d|d
       ·exact p c d
       ·exact λH=>k.apart c d (by rw[m];exact iL _ H))
   (by rw[l];intro c d;rcases gu.1 d with d|d
       ·exact r c d
       ·exact RT.head (v b (gM ..)) (k.p7 c d))
   (by rw[l];intro c d j i;rcases gu.1 d with d|d
       ·exact iL _ (s c d j i)
       ·exact k.mO c d j i)
  rw[nK];refine⟨x,y,z,A,B,λj i=> ?_,λj i=>w j (by rw[l];exact iL _ i)⟩;rcases fm.1 i with rfl|i
  ·exact w j (by rw[l];exact k.self)
  ·exact C j i
theorem oT{G:Nat->fe}{N:Nat}(i:∀n,∀k∈G n,n<k/\k<=N):∀(f n:Nat) (done:fe),n<=N->N+1- n<=f->Na G n done (hJ G f n done)
 |0,n,done,m,o=>by omega
 |f+1,n,done,m,o=>by
  rw[mc]
  by_cases g:n∈done
  ·rw[fW g];exact⟨List.nodup_nil,by simp,by simp,by simp[g],by simp⟩
  ·rw[fG g]
   obtain⟨p,r,j,s,t,u,z⟩:=vE (G:=G) (f:=f) (n:=n) (done:=done) (G n) ([],done++[n]) (λk c v=>oT i f k v (i n k c).2 (by have:=i n k c;omega)) (λ_ h=>h) (by simp) (by simp) (by simp) (by simp) (by simp)
   generalize(G n).foldl (j9 G f) ([],done++[n])=w at*
   refine⟨kF.2 ⟨r,by simp,λx y A l e=> ?_⟩,λd a=> ?_,λd a=> ?_,by simp,λd a k c=> ?_⟩
   ·simp only[fF] at l
    subst l e
    exact j x y (by simp)
   ·rcases gu.1 a with a|a
    ·exact λh=>j d a (iL _ h)
    ·simp only[fF] at a;subst a;exact g
   ·rcases gu.1 a with a|a
    ·exact s d a
    ·simp only[fF] at a;subst a;exact .refl _
   ·have b:k∈w.2:=by
     rcases gu.1 a with a|a
     ·exact t d a k c
     ·simp only[fF] at a;subst a;exact u k c
    rw[p] at b;simp only[gu,fF] at b ⊢;rcases b with(b|b)|b
    ·exact .inl b
    ·exact .inr (.inr b)
    ·exact .inr (.inl b)
structure AS(n:Nat)(L:Nat->Nat)(E G:Nat->fe):Prop where
 inj:∀i j,i<n->j<n->L i=L j->i=j
 lt:∀i,i<n->∀j∈E i,j<n
 map:∀i,i<n->(E i).map L=G (L i)
theorem yw{d:Nat->Nat}{i j:Nat->fe}(s:∀f b done,f<n->b.1.length=n->(∀a,a<n->(b.1.getD a true=true↔d a∈done))->∃c:fe,(∀a∈c,a<n)/\c.map d=hJ j k (d f) done/\(ia i k f b).2=b.2++c/\(ia i k f b).1.length=n/\(∀a,a<n->((ia i k f b).1.getD a true=true↔d a∈done++hJ j k (d f) done))):
 ∀(c:fe) (b:List Bool×fe) (g:fe×fe),(∀a∈c,a<n)->b.1.length=n->(∀a,a<n->(b.1.getD a true=true↔d a∈g.2))->
  ∃l:fe,(∀a∈l,a<n)/\g.1++l.map d=((c.map d).foldl (j9 j k) g).1/\(c.foldl (λb m=>ia i k m b) b).2=b.2++l/\(c.foldl (λb m=>ia i k m b) b).1.length=n/\
   (∀a,a<n->((c.foldl (λb m=>ia i k m b) b).1.getD a true=true↔d a∈((c.map d).foldl (j9 j k) g).2))
 |[],b,g,_,o,p=>⟨[],by simp,by simp,by simp,o,by simpa using p⟩
 |f::c,b,g,t,o,p=>by
  obtain⟨l,u,v,w,x,y⟩:=s f b g.2 (t f (gM ..)) o p;obtain⟨z,A,B,C,D,E⟩:=yw s c (ia i k f b) (j9 j k g (d f)) (λa r=>t a (gD _ r)) x y;refine⟨l++z,λa r=>(gu.1 r).elim (u a) (A a), ?_, ?_, ?_, ?_⟩
  ·rw[hU,nK,<-B,iC,v,<-iK];rfl
  ·rw[nK,C,w,iK]
  ·rw[nK];exact D
  ·rw[nK,hU,nK];exact E
theorem yx{a:Nat->Nat}{l G:Nat->fe}(h:AS n a l G):∀(d i:Nat) (b:List Bool×fe) (done:fe),i<n->b.1.length=n->(∀j,j<n->(b.1.getD j true=true↔a j∈done))->
 ∃g:fe,(∀j∈g,j<n)/\g.map a=hJ G d (a i) done/\(ia l d i b).2=b.2++g/\(ia l d i b).1.length=n/\(∀j,j<n->((ia l d i b).1.getD j true=true↔a j∈done++hJ G d (a i) done))
 |0,i,b,done,k,p,m=>⟨[],by simp,rfl,by simp[ia],p,by simpa[ia,hJ] using m⟩
 |d+1,i,b,done,k,p,m=>by
  rw[mc]
  unfold ia
  by_cases r:a i∈done
  ·rw[fW r,fW ((m i k).2 r)]
   exact⟨[],by simp,rfl,by simp,p,by simpa using m⟩
  ·rw[fG r,fG (λe=>r ((m i k).1 e))]
   obtain⟨w,x,u,y,z,v⟩:=yw (λi b done=>yx h d i b done) (l i) (b.1.set i true,b.2) ([],done++[a i]) (h.lt i k) (by simpa using p) (λj f=>by
    by_cases s:i=j
    ·subst s
     simp[jx,p,k]
    ·have:a j≠a i:=λe=>s (h.inj _ _ f k e).symm
     have c:=m j f
     simp only[jx,ur s] at c ⊢
     simp[c,this])
   rw[h.map i k] at u v
   generalize(l i).foldl (λb A=>ia l d A b) (b.1.set i true,b.2)=E at*
   have B:∀(g:fe) (o:fe×fe),o.2=done++[a i]++o.1->(g.foldl (j9 G d) o).2=done++[a i]++(g.foldl (j9 G d) o).1:=by
    intro g;induction g with
    |nil=>intro o t;exact t
    |cons F g C=>intro o t;rw[nK];exact C _ (by simp only[j9,t,iK])
   have D:=B (G (a i)) ([],done++[a i]) (by simp);generalize(G (a i)).foldl (j9 G d) ([],done++[a i])=H at*;refine⟨w++[i],λj f=> ?_, ?_, ?_,z,λj f=> ?_⟩
   ·rcases gu.1 f with f|f
    ·exact x j f
    ·simp only[fF] at f;subst f;exact k
   ·rw[iC,<-u];simp
   ·simp only[y,iK]
   ·refine(v j f).trans ?_;rw[D];simp only[gu,fF];constructor
    ·rintro((c|c)|c)
     ·exact .inl c
     ·exact .inr (.inr c)
     ·exact .inr (.inl c)
    ·rintro(c|c|c)
     ·exact .inl (.inl c)
     ·exact .inr c
     ·exact .inl (.inr c)
def jN(l out:fe):fe:=l.foldl (λout n=>if n∈out then out else out++[n]) out
theorem vF(a:Nat)(b out:fe):jN (a::b) out=jN b (if a∈out then out else out++[a]):=rfl
theorem oU:∀(c out:fe) (b:Nat),b∈jN c out↔b∈out\/b∈c
 |[],out,b=>by simp[jN]
 |d::c,out,b=>by
  rw[vF,oU];by_cases h:d∈out
  ·rw[fW h];simp only[fm];exact⟨λa=>a.elim .inl (λa=>.inr (.inr a)),λa=>a.elim .inl (λa=>a.elim (λe=>.inl (e▸h)) .inr)⟩
  ·rw[fG h];simp only[gu,fm,gp,gq,or_assoc]
theorem me:∀(a out:fe),out.Nodup->(jN a out).Nodup
 |[],out,h=>h
 |f::a,out,h=>by
  rw[vF];refine me a _ ?_;split
  ·exact h
  ·next c=>exact kF.2 ⟨h,by simp,λg d i b e=>c (by simp only[fF] at b;subst b;subst e;exact d)⟩
theorem uD:∀(b out:fe),∃a,jN b out=out++a
 |[],out=>⟨[],by simp[jN]⟩
 |c::b,out=>by
  rw[vF];obtain⟨a,d⟩:=uD b (if c∈out then out else out++[c]);split at d
  ·next h=>rw[fW h];exact⟨a,d⟩
  ·next h=>rw[fG h];exact⟨c::a,by rw[d,iK];rfl⟩
theorem xk(b out:fe)(h:∀a∈b,a<n)(c:∀a∈out,a<n):∀a∈jN b out,a<n:=λa d=>((oU b out a).1 d).elim (c a) (h a)
theorem iM{m:Nat}(l:fe)(h:l.Nodup)(k:∀x∈l,x<m):l.length<=m:=by have a:=h.length_le_of_subset λx b=>ll.2 (k x b);simpa using a
structure C'(E:Nat->fe)(roots out:fe)(at_:Nat):Prop where
 nodup:out.Nodup
 src:∀x∈roots,x∈out
 p7:∀x∈out,∃r,r∈roots/\RT E r x
 done:∀i (h:i<out.length),i<at_->∀k∈E out[i],k∈out
theorem C'.start(d:Nat->fe)(c:fe):C' d c (jN c []) 0:=
 ⟨me _ _ (by simp),λa b=>(oU _ _ a).2 (.inr b),λa b=>⟨a,((oU _ _ a).1 b).elim (by simp) id,.refl _⟩,λf h g=>by omega⟩
theorem C'.step{c:Nat->fe}{out:fe}{at_:Nat}(h:C' c r out at_)(j:at_<out.length):C' c r (jN (c out[at_]) out) (at_+1):=by
 refine⟨me _ _ h.nodup,λd a=>(oU _ _ d).2 (.inl (h.src d a)),λd a=> ?_,λb k t i f=> ?_⟩
 ·rcases(oU _ _ d).1 a with a|a
  ·exact h.p7 d a
  ·obtain⟨l,m,n⟩:=h.p7 out[at_] (eU j);exact⟨l,m,n.step a⟩
 ·obtain⟨u,o⟩:=uD (c out[at_]) out;have g:b<out.length:=by omega
  have p:(jN (c out[at_]) out)[b]=out[b]:=by
   have:(jN (c out[at_]) out)[b]? =out[b]?:=by rw[o,qp g]
   rw[gg k,gg g] at this;exact mj this
  rw[p] at f;refine(oU _ _ i).2 ?_;by_cases s:b=at_
  ·subst s;exact .inr f
  ·exact .inl (h.done b g (by omega) i f)
theorem C'.mem{b:Nat->fe}{roots out:fe}{at_:Nat}(h:C' b roots out at_)(l:out.length<=at_)(x:Nat):x∈out↔∃a,a∈roots/\RT b a x:=by refine⟨h.p7 x,λ⟨a,c,d⟩=>d.mO (S:=(· ∈out)) (λm f g i=> ?_) (h.src a c)⟩;obtain⟨j,k,rfl⟩:=gN f;exact h.done j k (by omega) g i
theorem fZ{f:Type}{l:List f}(h:l.Nodup){i j:Nat}(b:i<l.length)(c:j<l.length)(e:l[i]=l[j]):i=j:=by
 have d:=jJ.1 h;rcases Az i j with a|a|a
 ·exact absurd e (d i j b c a)
 ·exact a
 ·exact absurd e.symm (d j i c b a)
structure Ob where
 id:Nat
 fQ:Nat
 eP:fe
 gE:Nat
 keep:Bool
inductive qw {α β:Type} (R:α->β->Prop):List α->List β->Prop
 |nil:qw R [] []
 |cons {a:α} {b:β} {l:List α} {m:List β}:R a b->qw R l m->qw R (a::l) (b::m)
theorem qw.imp{c d:Type}{R S:c->d->Prop}(h:∀a b,R a b->S a b){l:List c}{m:List d}(f:qw R l m):qw S l m:=by
 induction f with
 |nil=>exact .nil
 |cons g _ i=>exact .cons (h _ _ g) i
theorem qw.Uw{a b:Type}{c:a->b->Prop}{l:List a}{d:List b}{f:a}{g:b}(k:qw c l d)(h:c f g):qw c (l++[f]) (d++[g]):=by
 induction k with
 |nil=>exact .cons h .nil
 |cons i _ j=>exact .cons i j
def jM(G:Nat->fe)(l:List Ob)(o:Ob):Prop:=qw (λi k=>∃p∈l,p.id=i/\p.fQ=k) o.eP (G o.fQ)
theorem jM.mono{G:Nat->fe}{l l':List Ob}{o:Ob}(h:jM G l o)(a:∀p∈l,∃q∈l',q.id=p.id/\q.fQ=p.fQ):jM G l' o:=
 qw.imp (λj k ⟨p,b,c,d⟩=>by obtain⟨q,f,g,i⟩:=a p b;exact⟨q,f,g.trans c,i.trans d⟩) h
def sG(l:List Ob)(i:Nat):Nat:=l.findIdx (λo=>o.id==i)
theorem qx{l:List Ob}(h:∃a∈l,a.id=n):sG l n<l.length:=by obtain⟨a,b,rfl⟩:=h;exact Ux ⟨a,b,by simp⟩
theorem vG{l:List Ob}(h:sG l n<l.length):l[sG l n].id=n:=by have a:=Uy (p:=λb:Ob=>b.id==n) (xs:=l) (w:=h);exact sT.1 a
theorem Tc{l:List Ob}(d:(l.map Ob.id).Nodup){a:Nat}(b:a<l.length):sG l l[a].id=a:=by have c:=qx ⟨l[a],eU b,rfl⟩;have f:=vG c;exact fZ d (by simpa using c) (by simpa using b) (by simpa using f)
def zL(l:List Ob)(i:Nat):fe:=match l[i]? with|some o=>o.eP.map (sG l)|none=>[]
def kr(l:List Ob)(i:Nat):Nat:=match l[i]? with|some o=>o.fQ|none=>0
theorem Sh{G:Nat->fe}{l:List Ob}(k:(l.map Ob.id).Nodup)(m:(l.map Ob.fQ).Nodup)(i:∀s∈l,jM G l s):AS l (kr l) (zL l) G:=by
 refine⟨λb t n a e=> ?_,λb h t o=> ?_,λb h=> ?_⟩
 ·simp only[kr,gg n,gg a] at e;exact fZ m (by simpa using n) (by simpa using a) (by simpa using e)
 ·simp only[zL,gg h,fy] at o;obtain⟨u,d,rfl⟩:=o;have a:=i _ (eU h);unfold jM at a;obtain⟨p,v⟩:∃p,∃c∈l,c.id=u/\c.fQ=p:=by
   clear k m i;generalize l[b].eP=w at a d;generalize G l[b].fQ=x at a;induction a with
   |nil=>cases d
   |cons f _ j=>
    rcases fm.1 d with rfl|d
    ·exact⟨_,f⟩
    ·exact j d
  obtain⟨c,g,f,_⟩:=v;exact qx ⟨c,g,f⟩
 ·have a:=i _ (eU h);simp only[zL,kr,gg h,jL];unfold jM at a;revert a;generalize l[b].eP=w;generalize G l[b].fQ=x;intro a;induction a with
  |nil=>rfl
  |cons f _ j=>
   rw[hU,j];obtain⟨c,g,rfl,rfl⟩:=f;congr 1
   simp only[uE];have y:=qx (l:=l) ⟨c,g,rfl⟩;have z:=vG y;obtain⟨A,r,rfl⟩:=gN g;rw[Tc k r];simp only[kr,gg r]
section
abbrev OS:=List Ob×Nat
def tL(k:Nat)(o:Ob):Bool:=o.fQ==k
def mf(s:OS)(k:Nat):OS×Nat×Bool:=
 match s.1.find? (tL k) with
 |some o=>(s,o.id,false)
 |none=>((s.1++[⟨s.2+1,k,[],0,false⟩],s.2+1),s.2+1,true)
def f'(id to:Nat)(l:List Ob):List Ob:=l.map λo=>if o.id=id then {o with eP:=o.eP++[to]} else o
def jc(id:Nat)(t:OS×fe)(k:Nat):OS×fe:=
 let r:=mf t.1 k
 ((f' id r.2.1 r.1.1,r.1.2),if r.2.2 then t.2++[r.2.1] else t.2)
def nP(s:OS)(id:Nat)(ks:fe):OS×fe:=ks.foldl (jc id) (s,[])
def yy(l:List Ob)(id:Nat):Nat:=match l.find? (λo=>o.id==id) with|some o=>o.fQ|none=>0
def nQ(G:Nat->fe):Nat->OS->fe->Nat->OS×fe
 |0,s,news,_=>(s,news)
 |f+1,s,news,at_=>match news[at_]? with
  |none=>(s,news)
  |some id=>let r:=nP s id (G (yy s.1 id));nQ G f r.1 (news++r.2) (at_+1)
structure wZ(G:Nat->fe)(vd:List Ob)(n last0:Nat)(s:OS)(news:fe)(at_:Nat)(cur:fe):Prop where
 ex:∃new:List Ob,s.1=vd++new/\new.map Ob.id=news/\(∀o∈new,o.gE=0/\o.keep=false/\RT G n o.fQ/\o.fQ≠0)/\
  (∀i (h:i<new.length),(i<at_->jM G s.1 new[i])/\(at_<i->new[i].eP=[])/\(i=at_->qw (λi k=>∃p∈s.1,p.id=i/\p.fQ=k) new[i].eP cur))/\
  (∀i (h:i<new.length),new[i].id=last0+1+i)/\s.2=last0+new.length
 fQ:(s.1.map Ob.fQ).Nodup
theorem p8{l:List Ob}{k:Nat}:(∃a,l.find? (tL k)=some a/\a∈l/\a.fQ=k)\/(l.find? (tL k)=none/\k∉l.map Ob.fQ):=by
 cases h:l.find? (tL k) with
 |some a=>exact .inl ⟨a,rfl,Dj h,by have:=Ml h;simpa[tL] using this⟩
 |none=>refine .inr ⟨rfl,λb=> ?_⟩;obtain⟨a,c,rfl⟩:=fy.1 b;have:=QU.1 h a c;simp[tL] at this
theorem rO(id to:Nat)(l:List Ob):(f' id to l).map Ob.id=l.map Ob.id:=by simp only[f',jL];refine mP λa _=> ?_;simp only[uE];split<;>rfl
theorem qY(id to:Nat)(l:List Ob):(f' id to l).map Ob.fQ=l.map Ob.fQ:=by simp only[f',jL];refine mP λa _=> ?_;simp only[uE];split<;>rfl
theorem oV(id to:Nat)(l:List Ob)(h:∀a∈l,a.id≠id):f' id to l=l:=by unfold f';rw[show l=l.map (λa=>a) by simp];rw[jL];refine mP λa b=> ?_;simp only[uE];rw[fG (h a b)]
theorem pt{id to:Nat}{l:List Ob}{p:Ob}(a:p∈l):∃q∈f' id to l,q.id=p.id/\q.fQ=p.fQ:=by refine⟨_,fy.2 ⟨p,a,rfl⟩, ?_⟩;split<;>exact⟨rfl,rfl⟩
theorem nC{id to:Nat}{l:List Ob}{i:Nat}(h:i<(f' id to l).length)(a:i<l.length):(f' id to l)[i]=if l[i].id=id then {l[i] with eP:=l[i].eP++[to]} else l[i]:=by simp[f']
theorem AT{l b:List Ob}(h:qw (λa k=>∃p∈l,p.id=a/\p.fQ=k) r s)(c:∀p∈l,∃q∈b,q.id=p.id/\q.fQ=p.fQ):qw (λa k=>∃p∈b,p.id=a/\p.fQ=k) r s:=
 qw.imp (λa k ⟨p,d,f,g⟩=>by obtain⟨q,i,j,m⟩:=c p d;exact⟨q,i,j.trans f,m.trans g⟩) h
theorem J2{B:Nat->fe}{d:List Ob}{a:OS}{at_:Nat}{k:Nat}(h:wZ B d n m a r at_ s)(F:∀f∈d,f.id<=m)(af:at_<r.length)(O:RT B n k)(P:k≠0){t0:fe}(Q:∃i,r=i++t0):
 wZ B d n m (jc (r[at_]) (a,t0) k).1 (r.take (r.length- t0.length)++(jc (r[at_]) (a,t0) k).2) at_ (s++[k]):=by
 obtain⟨⟨c,G,A,H,I,u,J⟩,K⟩:=h;have ag:c.length=r.length:=by rw[<-A];simp
 have gO:r[at_]=m+1+at_:=by have:=u at_ (by omega);rw[<-this];simp[<-A]
 obtain⟨i,rfl⟩:=Q;have R:(i++t0).take ((i++t0).length- t0.length)=i:=by simp
 rw[R];rw[gO];rcases p8 (l:=a.1) (k:=k) with⟨f,C,S,T⟩|⟨C,U⟩
 ·
  have D:jc (m+1+at_) (a,t0) k=((f' (m+1+at_) f.id a.1,a.2),t0):=by simp[jc,mf,C]
  rw[D];refine⟨⟨f' (m+1+at_) f.id c, ?_, ?_, ?_, ?_, ?_, ?_⟩, ?_⟩
  ·simp only[G];have:f' (m+1+at_) f.id d=d:=oV _ _ _ λp hp=>by have:=F p hp;omega
   rw[show f' (m+1+at_) f.id (d++c)=f' (m+1+at_) f.id d++f' (m+1+at_) f.id c by simp[f'],this]
  ·rw[rO,A]
  ·intro p hp;simp only[f',fy] at hp;obtain⟨q,v,rfl⟩:=hp;have:=H q v;split<;>exact this
  ·intro b g;have j:b<c.length:=by simpa[f'] using g
   rw[nC g j,u b j];obtain⟨f1,f2,f3⟩:=I b j;have o:∀p∈a.1,∃q∈f' (m+1+at_) f.id a.1,q.id=p.id/\q.fQ=p.fQ:=λp hp=>pt hp;by_cases w:b=at_
   ·subst w;rw[fW rfl];refine⟨λh=>by omega,λh=>by omega,λ_=> ?_⟩;refine qw.Uw (AT (f3 rfl) o) ?_;obtain⟨q,v,V,W⟩:=o f S;exact⟨q,v,V,W.trans T⟩
   ·rw[fG (by omega)];exact⟨λh=>(f1 h).mono o,f2,λh=>absurd h w⟩
  ·intro b g;have j:b<c.length:=by simpa[f'] using g
   rw[nC g j];have:=u b j;split<;>exact this
  ·simp[f',J]
  ·simp only[qY];exact K
 ·
  have D:jc (m+1+at_) (a,t0) k=((f' (m+1+at_) (a.2+1) (a.1++[⟨a.2+1,k,[],0,false⟩]),a.2+1),t0++[a.2+1]):=by simp[jc,mf,C]
  rw[D];have X:m+1+at_≠a.2+1:=by omega
  have Y:f' (m+1+at_) (a.2+1) (a.1++[⟨a.2+1,k,[],0,false⟩])=d++(f' (m+1+at_) (a.2+1) c++[⟨a.2+1,k,[],0,false⟩]):=by
   have Z:f' (m+1+at_) (a.2+1) d=d:=oV _ _ _ λp hp=>by have:=F p hp;omega
   have h2:f' (m+1+at_) (a.2+1) [(⟨a.2+1,k,[],0,false⟩:Ob)]=[⟨a.2+1,k,[],0,false⟩]:=oV _ _ _ λp hp=>by simp only[fF] at hp;subst hp;exact λe=>X e.symm
   rw[G,show ∀(i L M:List Ob) (x y:Nat),f' x y (i++L++M)=f' x y i++(f' x y L++f' x y M) by intros;simp[f'],Z,h2]
  have o:∀p∈a.1,∃q∈f' (m+1+at_) (a.2+1) (a.1++[⟨a.2+1,k,[],0,false⟩]),q.id=p.id/\q.fQ=p.fQ:=λp hp=>pt (iL _ hp);have ad:∃q∈f' (m+1+at_) (a.2+1) (a.1++[⟨a.2+1,k,[],0,false⟩]),q.id=a.2+1/\q.fQ=k:=pt (p:=⟨a.2+1,k,[],0,false⟩) (by simp);have ae:((f' (m+1+at_) (a.2+1) (a.1++[⟨a.2+1,k,[],0,false⟩])).map Ob.fQ).Nodup:=by rw[qY,iC];refine kF.2 ⟨K,by simp,λx hx y N e=>U ?_⟩;simp only[hU,jt,fF] at N;rw[<-N,<-e];exact hx
  simp only;generalize hS:f' (m+1+at_) (a.2+1) (a.1++[⟨a.2+1,k,[],0,false⟩])=ah at*;have z:(f' (m+1+at_) (a.2+1) c).length=c.length:=by simp[f']
  refine⟨⟨f' (m+1+at_) (a.2+1) c++[⟨a.2+1,k,[],0,false⟩],Y, ?_, ?_, ?_, ?_, ?_⟩,ae⟩
  ·rw[iC,rO,A,iK];rfl
  ·intro p hp;rcases gu.1 hp with hp|hp
   ·simp only[f',fy] at hp;obtain⟨q,v,rfl⟩:=hp;have:=H q v;split<;>exact this
   ·simp only[fF] at hp;subst hp;exact⟨rfl,rfl,O,P⟩
  ·intro b g;by_cases t:b<c.length
   ·rw[J3 (by omega),nC (by omega) t,u b t];obtain⟨f1,f2,f3⟩:=I b t;by_cases w:b=at_
    ·subst w;rw[fW rfl];refine⟨λh=>by omega,λh=>by omega,λ_=> ?_⟩;exact qw.Uw (AT (f3 rfl) o) ad
    ·rw[fG (by omega)];exact⟨λh=>(f1 h).mono o,f2,λh=>absurd h w⟩
   ·have E:b=c.length:=by simp[z] at g;omega
    subst E;rw[Ec (by omega)];simp only[z,qW,sZ];refine⟨λh=>by omega,λ_=> ?_,λh=>by omega⟩;simp
  ·intro b g;by_cases t:b<c.length
   ·rw[J3 (by omega),nC (by omega) t];have:=u b t;split<;>exact this
   ·have E:b=c.length:=by simp[z] at g;omega
    subst E;rw[Ec (by omega)];simp only[z,qW,sZ];omega
  ·rw[fT,z];simp[J];omega
theorem Gu(id:Nat)(a:OS×fe)(k:Nat):∃b,(jc id a k).2=a.2++b:=by
 unfold jc;simp only;split
 ·exact⟨_,rfl⟩
 ·exact⟨[],by simp⟩
theorem yz{f:Nat->fe}{g:List Ob}{at_ id:Nat}(l:∀t∈g,t.id<=m)(b:fe):∀(c:fe) (a:OS×fe) (d:fe),wZ f g n m a.1 (b++a.2) at_ d->(∀k∈c,RT f n k/\k≠0)->(b++a.2)[at_]? =some id->
 wZ f g n m (c.foldl (jc id) a).1 (b++(c.foldl (jc id) a).2) at_ (d++c)/\∃i,(c.foldl (jc id) a).2=a.2++i
 |[],a,d,h,_,_=>⟨by simpa using h,[],by simp⟩
 |k::c,a,d,h,j,gO=>by
  obtain⟨o,u⟩:=jS.1 gO;have p:=J2 (k:=k) (t0:=a.2) h l o (j k (by simp)).1 (j k (by simp)).2 ⟨b,rfl⟩;have v:(b++a.2).take ((b++a.2).length- a.2.length)=b:=by simp
  rw[v,u] at p;obtain⟨i,r⟩:=Gu id a k;obtain⟨s,w,x⟩:=yz l b c (jc id a k) (d++[k]) p (λy z=>j y (gD _ z)) (by rw[r,<-iK,qp o];exact gO)
  rw[iK] at s;exact⟨s,i++w,by rw[nK,x,r,iK]⟩
theorem Iw{l:List Ob}(d:(l.map Ob.id).Nodup){a:Ob}(c:a∈l):yy l a.id=a.fQ:=by
 unfold yy;cases h:l.find? (λb=>b.id==a.id) with
 |none=>exact absurd (QU.1 h a c) (by simp)
 |some b=>
  have f:=Dj h;have g:b.id=a.id:=by have:=Ml h;simpa using this
  obtain⟨k,i,rfl⟩:=gN f;obtain⟨m,j,rfl⟩:=gN c;have:=fZ d (by simpa using i) (by simpa using j) (by simpa using g);subst this;rfl
section
variable {G:Nat->fe} {vd:List Ob} {n last0 N:Nat}
theorem wZ.ids{s:OS}{at_:Nat}(h:wZ G vd n last0 s r at_ t)(f:∀o∈vd,o.id<=last0)(g:(vd.map Ob.id).Nodup):(s.1.map Ob.id).Nodup:=by
 obtain⟨⟨u,i,v,w,x,b,y⟩,z⟩:=h;rw[i,iC];refine kF.2 ⟨g, ?_,λA j B k e=> ?_⟩
 ·refine jJ.2 λc l a d C e=> ?_;simp only[gW] at a d;simp only[jy,b c a,b l d] at e;omega
 ·obtain⟨o,m,rfl⟩:=fy.1 j;obtain⟨D,p,rfl⟩:=fy.1 k;obtain⟨c,a,rfl⟩:=gN p;have:=f o m;have:=b c a;omega
theorem wZ.iO{s:OS}{at_:Nat}(h:wZ G vd n last0 s r at_ t)(b:∀n,∀k∈G n,n<k/\k<=N)(c:n<=N):r.length<=N+1:=by
 obtain⟨⟨d,f,g,i,w,x,y⟩,a⟩:=h;have j:(d.map Ob.fQ).Nodup:=by rw[f,iC] at a;exact(kF.1 a).2.1
 have:=iM (m:=N+1) _ j λz l=>by obtain⟨o,p,rfl⟩:=fy.1 l;exact Nat.lt_succ_of_le ((i o p).2.2.1.mO (S:=(· <=N)) (λu _ k v=>(b u k v).2) c)
 rw[<-g,gW];simpa using this
theorem Ix(p:∀n,∀k∈G n,n<k/\k<=N)(y:n<=N)(r:∀z∈vd,z.id<=last0)(A:(vd.map Ob.id).Nodup):∀(j:Nat) (a:OS) (d:fe) (at_:Nat),wZ G vd n last0 a d at_ []->N+1<=j+at_->
 ∃m,wZ G vd n last0 (nQ G j a d at_).1 (nQ G j a d at_).2 m []/\(nQ G j a d at_).2.length<=m/\∃B,(nQ G j a d at_).2=d++B
 |0,a,d,at_,h,H=>⟨at_,h,by have:=h.iO p y;simp only[nQ];omega,[],by simp[nQ]⟩
 |j+1,a,d,at_,h,H=>by
  unfold nQ
  cases gO:d[at_]? with
  |none=>exact⟨at_,h,List.getElem?_eq_none_iff.1 gO,[],by simp⟩
  |some id=>
   have I:=h.ids r A
   obtain⟨J,K⟩:=jS.1 gO
   have L:=h
   obtain⟨⟨b,s,C,M,e4,e5,e6⟩,hl⟩:=L
   have O:b.length=d.length:=by rw[<-C];simp
   have P:b[at_].id=id:=by rw[<-K];simp[<-C]
   have Q:yy a.1 id=b[at_].fQ:=by rw[<-P];exact Iw I (by rw[s];exact gT _ (eU _))
   simp only
   rw[Q]
   have R:=(M b[at_] (eU _)).2.2.1
   obtain⟨o,B,hx⟩:=yz (id:=id) r d (G b[at_].fQ) (a,[]) [] (by simpa using h) (λk D=>⟨R.step D,by have:=p _ k D;omega⟩) (by simpa using gO)
   have t:wZ G vd n last0 (nP a id (G b[at_].fQ)).1 (d++(nP a id (G b[at_].fQ)).2) (at_+1) []:=by
    have S:∀(g:List Ob),(nP a id (G b[at_].fQ)).1.1=vd++g->∀h:at_<g.length,g[at_].fQ=b[at_].fQ:=by
     intro g E u;have T:∀(l:fe) (f:OS×fe) (c:Nat) (i:c<f.1.1.length),∃h:c<(l.foldl (jc id) f).1.1.length,((l.foldl (jc id) f).1.1[c]).fQ=f.1.1[c].fQ:=by
      intro l;induction l with
      |nil=>intro f c i;exact⟨i,rfl⟩
      |cons k l U=>
       intro f c i;have:∃h:c<(jc id f k).1.1.length,((jc id f k).1.1[c]).fQ=f.1.1[c].fQ:=by
        unfold jc mf;cases f.1.1.find? (tL k) with
        |some z=>exact⟨by simpa[f'] using i,by simp only[f',jy];split<;>rfl⟩
        |none=>exact⟨by simp[f'];omega,by simp only[f',jy,J3 i];split<;>rfl⟩
       obtain⟨o,t⟩:=this;obtain⟨v,w⟩:=U (jc id f k) c o;exact⟨v,w.trans t⟩
     obtain⟨v,w⟩:=T (G b[at_].fQ) (a,[]) (vd.length+at_) (by rw[s];simp;omega);have V:(vd++g)[vd.length+at_]? =some g[at_]:=by rw[qq (by omega)];simp[u]
     have W:(vd++b)[vd.length+at_]? =some b[at_]:=by rw[qq (by omega)];simp[O,J]
     have x:(nP a id (G b[at_].fQ)).1.1[vd.length+at_]? =some g[at_]:=by rw[E];exact V
     have X:a.1[vd.length+at_]? =some b[at_]:=by rw[s];exact W
     unfold nP at x;rw[gg v] at x;have Y:=mj x;rw[<-Y];refine w.trans ?_;simp only;obtain⟨af,Z⟩:=jS.1 X;rw[Z]
    simp only[j6] at o;obtain⟨⟨g,f1,f2,f3,f4,f5,f6⟩,ad⟩:=o;refine⟨⟨g,f1,f2,f3,λc i=> ?_,f5,f6⟩,ad⟩;obtain⟨g1,F,g3⟩:=f4 c i;refine⟨λu=> ?_,λu=>F (by omega),λE=> ?_⟩
    ·by_cases ae:c=at_
     ·subst ae;have e:=S g f1 i;unfold jM;rw[e];exact g3 rfl
     ·exact g1 (by omega)
    ·rw[F (by omega)];exact .nil
   obtain⟨m,k1,k2,ag,k3⟩:=Ix p y r A j _ _ (at_+1) t (by omega);exact⟨m,k1,k2,_,by rw[k3,iK]⟩
end
end
section
theorem wN{j:Nat->fe}(r:∀a,∀c∈j a,a<c):∀(d a:Nat) (k n:fe),1<=a->(∀b,1<=b->(b∈k↔b∈n))->hJ j d a k=hJ j d a n
 |0,_,_,_,_,_=>rfl
 |d+1,a,k,n,s,h=>by
  rw[mc,mc]
  by_cases l:a∈k
  ·rw[fW l,fW ((h a s).1 l)]
  ·rw[fG l,fG (λe=>l ((h a s).2 e))]
   congr 1
   have u:∀(f:fe) (g i:fe×fe),(∀c∈f,1<=c)->g.1=i.1->(∀b,1<=b->(b∈g.2↔b∈i.2))->(f.foldl (j9 j d) g).1=(f.foldl (j9 j d) i).1:=by
    intro f;induction f with
    |nil=>intro g i _ o _;exact o
    |cons c f v=>intro g i m o t;rw[nK,nK];have e:=wN r d c g.2 i.2 (m c (by simp)) t;refine v _ _ (λw x=>m w (by simp[x])) (by simp only[j9,o,e]) λb p=> ?_;simp only[j9,e,gu,t b p]
   refine u _ _ _ (λc m=>by have:=r a c m;omega) rfl λb p=> ?_;simp only[gu,h b p]
def rP(t:List Ob×Nat)(id:Nat):List Ob×Nat:=(t.1.map λo=>if o.id=id then {o with gE:=t.2+1} else o,t.2+1)
def pH(l:List Ob)(inits:Nat)(ids:fe):List Ob×Nat:=ids.foldl rP (l,inits)
theorem AU:∀(d:fe) (a:List Ob) (c:Nat),d.Nodup->(pH a c d).2=c+d.length/\(pH a c d).1.length=a.length/\
 ∀b (h:b<a.length) (i:b<(pH a c d).1.length),(pH a c d).1[b]=if a[b].id∈d then {a[b] with gE:=c+1+d.idxOf a[b].id} else a[b]
 |[],a,c,_=>⟨rfl,rfl,λb h i=>by simp[pH]⟩
 |id::d,a,c,k=>by
  obtain⟨l,m⟩:=ph.1 k;have e:pH a c (id::d)=pH (rP (a,c) id).1 (c+1) d:=rfl;obtain⟨n,o,p⟩:=AU d (rP (a,c) id).1 (c+1) m;rw[e];have r:(rP (a,c) id).1.length=a.length:=by simp[rP]
  refine⟨by rw[n];simp;omega,by rw[o,r],λb h i=> ?_⟩;have s:b<(rP (a,c) id).1.length:=by omega
  rw[p b s i];have j:(rP (a,c) id).1[b]=if a[b].id=id then {a[b] with gE:=c+1} else a[b]:=by simp[rP]
  have gO:(rP (a,c) id).1[b].id=a[b].id:=by rw[j];split<;>rfl
  simp only[gO];rw[j];by_cases f:a[b].id=id
  ·subst f;rw[fG l,fW rfl,fW (by simp)];simp
  ·rw[fG f];by_cases g:a[b].id∈d
   ·rw[fW g,fW (by simp[g])];rw[List.idxOf_cons,mn.2 (λe=>f e.symm),cond_false];congr 1
    omega
   ·rw[fG g,fG (by simp[f,g])]
structure p9(G:Nat->fe)(N:Nat)(l:List Ob)(last inits:Nat)(order:fe):Prop where
 prog:∃r,l=⟨1,0,[],1,true⟩::r
 ids:(l.map Ob.id).Nodup
 le:∀o∈l,0<o.id/\o.id<=last
 qy:(l.map Ob.fQ).Nodup
 QV:∀o∈l,o.fQ<=N
 eP:∀o∈l,jM G l o
 rM:∀o∈l,0<o.gE/\o.gE<=inits
 keep:∀o∈l,o.keep=(o.fQ==0)
 Ua:∃p:List Ob,p.Perm l.tail/\p.map Ob.fQ=order/\p.Pairwise (λa b=>a.gE<b.gE)
def qa(l:List Ob):fe:=(l.filter λo=>decide (0<o.gE)).map Ob.fQ
theorem AV{f:List Ob}:n∈qa f↔∃a∈f,0<a.gE/\a.fQ=n:=by simp only[qa,fy,jb,jh];exact⟨λ⟨a,⟨b,c⟩,d⟩=>⟨a,b,c,d⟩,λ⟨a,b,c,d⟩=>⟨a,⟨b,c⟩,d⟩⟩
section
variable {G:Nat->fe} {N:Nat} {l:List Ob} {last inits:Nat} {order:fe}
theorem p9.mem(h:p9 G N l last inits order)(x:Nat)(f:1<=x):x∈order↔∃o∈l,o.fQ=x:=by
 obtain⟨g,b,c,_⟩:=h.Ua;obtain⟨i,d⟩:=h.prog;rw[<-c,fy];subst d;constructor
 ·rintro⟨o,a,e⟩;exact⟨o,gD _ (b.mem_iff.1 a),e⟩
 ·rintro⟨o,a,e⟩;rcases fm.1 a with rfl|a
  ·simp only at e;omega
  ·exact⟨o,b.mem_iff.2 a,e⟩
theorem p9.nodup(h:p9 G N l last inits order):order.Nodup/\∀a∈order,1<=a/\a<=N:=by
 obtain⟨k,d,g,_⟩:=h.Ua;obtain⟨m,rfl⟩:=h.prog;have b:=h.qy;rw[hU,ph] at b;subst g;refine⟨(d.map Ob.fQ).nodup_iff.2 b.2,λa i=> ?_⟩;obtain⟨c,j,rfl⟩:=fy.1 i;have f:=d.mem_iff.1 j;refine⟨?_,h.QV c (gD _ f)⟩;rcases x5 c.fQ with e|e
 ·exact absurd (fy.2 ⟨c,f,e⟩) b.1
 ·exact e
theorem Nb(L:∀p,∀t∈G p,p<t/\t<=N)(h:p9 G N l last inits order){p:Nat}(al:1<=p)(am:p<=N){o:List Ob}{ad:Nat}(hl:last<=ad)(W:∀k∈o,k.gE=0/\k.keep=false/\RT G p k.fQ/\k.fQ≠0)(X:∀a (h:a<o.length),o[a].id=last+1+a)(aG:ad=last+o.length)(au:∀k∈o,jM G (l++o) k)(Y:((l++o).map Ob.fQ).Nodup)(aH:∃k∈l++o,k.fQ=p){w:Nat}(hf:N+1- p<=w){n:fe}(s:∀c∈n,c<(l++o).length)(M:n.map (kr (l++o))=hJ G w p (qa (l++o))):
 hJ G w p (qa (l++o))=hJ G w p order/\p9 G N (pH (l++o) inits (n.map λc=>((l++o).getD c ⟨0,0,[],0,false⟩).id)).1 ad (inits+n.length) (order++hJ G w p order):=by
 obtain⟨I,hr⟩:=h.prog;have av:∀J,1<=J->(J∈qa (l++o)↔J∈order):=λJ hx=>by
  rw[AV,h.mem J hx];constructor
  ·rintro⟨k,m,i,f⟩;rcases gu.1 m with m|m
   ·exact⟨k,m,f⟩
   ·have:=(W k m).1;omega
  ·rintro⟨k,m,f⟩;exact⟨k,iL _ m,(h.rM k m).1,f⟩
 have an:=wN (λp t v=>(L p t v).1) w p _ _ al av;have O:=oT L w p order am hf;rw[an] at M;refine⟨an, ?_⟩;have ae:((l++o).map Ob.id).Nodup:=by
  rw[iC];refine kF.2 ⟨h.ids,jJ.2 λa c b j af e=> ?_,λJ hx x z e=> ?_⟩
  ·simp only[gW] at b j;simp only[jy,X a b,X c j] at e;omega
  ·obtain⟨k,m,rfl⟩:=fy.1 hx;obtain⟨q,P,rfl⟩:=fy.1 z;obtain⟨a,b,rfl⟩:=gN P;have:=(h.le k m).2;have:=X a b;omega
 generalize C:l++o=d at*;have Q:∀c,c<d.length->∃j:c<d.length,d.getD c ⟨0,0,[],0,false⟩=d[c]:=λc j=>⟨j,by simp[jx,j]⟩;have ag:∀c (j:c<d.length),kr d c=d[c].fQ:=λc j=>by simp only[kr,gg j]
 have R:n.Nodup:=by
  have:(n.map (kr d)).Nodup:=by rw[M];exact O.nodup
  exact Uz _ (λA ah h e=>h (congrArg _ e)) this
 have ai:(n.map λc=>(d.getD c ⟨0,0,[],0,false⟩).id).Nodup:=by refine jJ.2 λa c b j af e=> ?_;simp only[gW] at b j;simp only[jy] at e;obtain⟨i,T⟩:=Q _ (s _ (eU b));obtain⟨f,e2⟩:=Q _ (s _ (eU j));rw[T,e2] at e;have:=fZ ae (by simpa using i) (by simpa using f) (by simpa using e);exact absurd (fZ R b j this) (by omega)
 have aj:∀a (b:a<d.length),(d[a].id∈(n.map λc=>(d.getD c ⟨0,0,[],0,false⟩).id)↔a∈n):=λa b=>by
  rw[fy];constructor
  ·rintro⟨c,j,e⟩;obtain⟨i,T⟩:=Q _ (s _ j);rw[T] at e;have:=fZ ae (by simpa using i) (by simpa using b) (by simpa using e);exact this▸j
  ·intro j;obtain⟨i,T⟩:=Q _ b;exact⟨a,j,by rw[T]⟩
 have ao:∀a (b:a<d.length),(a∈n↔d[a].fQ∈hJ G w p order):=λa b=>by
  rw[<-M,fy];constructor
  ·intro j;exact⟨a,j,ag a b⟩
  ·rintro⟨c,j,e⟩;have i:=s _ j;rw[ag c i] at e;have:=fZ Y (by simpa using i) (by simpa using b) (by simpa using e);exact this▸j
 have aw:∀k∈o,k.fQ∈hJ G w p order:=λk m=>by
  obtain⟨i,f,u,D⟩:=W k m;have ax:k.fQ∉order:=λE=>by obtain⟨q,P,e⟩:=(h.mem k.fQ (by omega)).1 E;rw[<-C,iC] at Y;exact(kF.1 Y).2.2 q.fQ (fy.2 ⟨q,P,rfl⟩) k.fQ (fy.2 ⟨k,m,rfl⟩) e
  have ay:∀x,x∈order++hJ G w p order->∀t∈G x,t∈order++hJ G w p order:=λx z t v=>by
   rcases gu.1 z with z|z
   ·have az:=(h.nodup.2 x z).1;obtain⟨q,P,rfl⟩:=(h.mem x az).1 z;have Z:=h.eP q P;unfold jM at Z;have:∃y∈l,y.fQ=t:=by
     clear M s ao aj ai R;generalize q.eP=A at Z;generalize G q.fQ=ah at Z v;induction Z with
     |nil=>cases v
     |cons hh _ ih=>
      rcases fm.1 v with rfl|v
      ·obtain⟨y,s,_,e⟩:=hh;exact⟨y,s,e⟩
      ·exact ih v
    exact iL _ ((h.mem t (by have:=L _ t v;omega)).2 this)
   ·exact O.mO x z t v
  have:=u.mO (S:=(· ∈order++hJ G w p order)) ay O.self;exact(gu.1 this).resolve_left ax
 have ap:∀a (b:a<d.length) (g:a<l.length),d[a]=l[a]:=λa b g=>by
  have:d[a]? =l[a]?:=by rw[<-C,qp g]
  rw[gg b,gg g] at this;exact mj this
 have ak:∀a (b:a<d.length),l.length<=a->d[a]∈o:=λa b g=>by
  have:d[a]? =o[a- l.length]?:=by rw[<-C,qq g]
  rw[gg b] at this;exact mp this.symm
 have F:∀a (b:a<d.length),(a∈n↔l.length<=a):=λa b=>by
  rw[ao a b];constructor
  ·intro E;rcases m0 a l with g|g
   ·rw[ap a b g] at E;have i:=O.apart _ E;have:1<=l[a].fQ:=(O.p7 _ E).mO (S:=(1<=·)) (λx _ t v=>by have:=L x t v;omega) al;exact absurd ((h.mem _ this).2 ⟨l[a],eU g,rfl⟩) i
   ·exact g
  ·intro g;exact aw _ (ak a b g)
 obtain⟨s1,U,B⟩:=AU (n.map λc=>(d.getD c ⟨0,0,[],0,false⟩).id) d inits ai;generalize hR:(pH d inits (n.map λc=>(d.getD c ⟨0,0,[],0,false⟩).id)).1=r at*;clear s1;have aA:r.map Ob.id=d.map Ob.id:=Ci (by simp[U]) λa i f=>by simp only[gW] at i f;simp only[jy];rw[B a f i];split<;>rfl
 have aB:r.map Ob.fQ=d.map Ob.fQ:=Ci (by simp[U]) λa i f=>by simp only[gW] at i f;simp only[jy];rw[B a f i];split<;>rfl
 have K:∀a (i:a<r.length) (g:a<l.length),r[a]=l[a]:=λa i g=>by
  have b:a<d.length:=by omega
  rw[B a b i,fG (λE=>by have:=(F a b).1 ((aj a b).1 E);omega),ap a b g]
 have H:∀a (i:a<r.length) (f:a<d.length),l.length<=a->r[a]={d[a] with gE:=inits+1+n.idxOf a}:=λa i f g=>by
  have aq:=(F a f).2 g;rw[B a f i,fW ((aj a f).2 aq)];have:(n.map λc=>(d.getD c ⟨0,0,[],0,false⟩).id).idxOf d[a].id=n.idxOf a:=by
   have u:=Si.2 aq;have D:=List.getElem_idxOf u;have h5:(n.map λc=>(d.getD c ⟨0,0,[],0,false⟩).id)[n.idxOf a]'(by simpa using u)=d[a].id:=by simp only[jy,D];obtain⟨_,e⟩:=Q a f;rw[e]
   rw[<-h5];exact ai.idxOf_getElem _ (by simpa using u)
  rw[this]
 have aC:∀k∈d,jM G d k:=λk m=>by
  rw[<-C] at m;rcases gu.1 m with m|m
  ·exact(h.eP k m).mono λy s=>⟨y,by rw[<-C];exact iL _ s,rfl,rfl⟩
  ·exact au k m
 have aD:∀y∈d,∃q∈r,q.id=y.id/\q.fQ=y.fQ:=λy s=>by
  obtain⟨a,b,rfl⟩:=gN s;have i:a<r.length:=by omega
  refine⟨r[a],eU i, ?_, ?_⟩
  ·rw[B a b i];split<;>rfl
  ·rw[B a b i];split<;>rfl
 have V:d.length=l.length+o.length:=by rw[<-C];simp
 refine⟨?_,by rw[aA];exact ae,λk m=> ?_,by rw[aB];exact Y,λk m=> ?_,λk m=> ?_,λk m=> ?_,λk m=> ?_, ?_⟩
 ·subst hr;have h0:0<r.length:=by rw[U,V];simp;omega
  have:=K 0 h0 (by simp);simp only[sZ] at this;cases r with
  |nil=>simp at h0
  |cons A R'=>simp only[sZ] at this;exact⟨R',by rw[this]⟩
 ·obtain⟨a,b,rfl⟩:=gN m;rcases m0 a l with g|g
  ·rw[K a b g];have:=h.le l[a] (eU g);omega
  ·have f:a<d.length:=by omega
   rw[H a b f g];simp only;have u:d[a]? =o[a- l.length]?:=by rw[<-C,qq g]
   rw[gg f,gg (by omega)] at u;have D:=X (a- l.length) (by omega);rw[mj u,D];omega
 ·obtain⟨a,b,rfl⟩:=gN m;rcases m0 a l with g|g
  ·rw[K a b g];exact h.QV _ (eU g)
  ·have f:a<d.length:=by omega
   rw[H a b f g];exact((W _ (ak a f g)).2.2.1).mO (S:=(· <=N)) (λx _ t v=>(L x t v).2) am
 ·obtain⟨a,b,rfl⟩:=gN m;have f:a<d.length:=by omega
  have u:=aC d[a] (eU f);have D:=u.mono aD;unfold jM at D ⊢;rw[B a f b];split<;>exact D
 ·obtain⟨a,b,rfl⟩:=gN m;rcases m0 a l with g|g
  ·rw[K a b g];have:=h.rM l[a] (eU g);omega
  ·have f:a<d.length:=by omega
   rw[H a b f g];have:=Si.2 ((F a f).2 g);simp only;omega
 ·obtain⟨a,b,rfl⟩:=gN m;rcases m0 a l with g|g
  ·rw[K a b g];exact h.keep _ (eU g)
  ·have f:a<d.length:=by omega
   rw[H a b f g];have:=W _ (ak a f g);simp[this.2.1,this.2.2.2]
 ·obtain⟨y,p1,p2,p3⟩:=h.Ua;have ar:∀c (j:c<n.length),l.length<=n[c]/\n[c]<d.length:=λc j=>⟨(F _ (s _ (eU j))).1 (eU j),s _ (eU j)⟩;refine⟨y++n.map λc=>r.getD c ⟨0,0,[],0,false⟩, ?_, ?_, ?_⟩
  ·subst hr;have aE:r.tail=I++r.drop (I.length+1):=by
    apply Dv;intro a;rw[List.getElem?_tail];by_cases b:a<I.length
    ·rw[qp b];have i:a+1<r.length:=by rw[U,V];simp;omega
     rw[gg i,K (a+1) i (by simp;omega)];simp
    ·rw[qq (by omega),S6];congr 1;omega
   rw[aE];refine List.Perm.append p1 ?_;have aF:n.Perm ((List.range o).map (· +(I.length+1))):=by
    refine(Sj R ?_).2 λA=> ?_
    ·refine jJ.2 λa c b j af e=> ?_;simp at e;omega
    ·simp only[fy,ll];constructor
     ·intro ha;have i:=s A ha;have f:=(F A i).1 ha;simp only[iw] at f V;exact⟨A- (I.length+1),by omega,by omega⟩
     ·rintro⟨ah,hb,rfl⟩;simp only[iw] at V;exact(F _ (by omega)).2 (by simp)
   refine(aF.map _).trans (List.Perm.of_eq ?_);rw[jL];refine Ci ?_ λa i f=> ?_
   ·simp only[gW,List.length_range,jE,U,V,iw];omega
   ·simp only[jy,Nc,uE,List.getElem_drop];simp only[jE] at f;have u:a+(I.length+1)<r.length:=by omega
    simp only[jx,gg u,pP];congr 1;omega
  ·rw[iC,p2,<-M,jL];congr 1
   refine mP λc j=> ?_;have i:=s c j;have f:c<r.length:=by omega
   simp only[uE,jx,gg f,pP];rw[B c i f,ag c i];split<;>rfl
  ·refine yg.2 ⟨p3,jJ.2 λa c b j af=> ?_,λA ha ah hb=> ?_⟩
   ·simp only[gW] at b j;obtain⟨a1,a2⟩:=ar a b;obtain⟨b1,b2⟩:=ar c j;have a3:n[a]<r.length:=by omega
    have b3:n[c]<r.length:=by omega
    simp only[jy,jx,gg a3,gg b3,pP];rw[H _ a3 a2 a1,H _ b3 b2 b1];simp only;rw[R.idxOf_getElem a b,R.idxOf_getElem c j];omega
   ·obtain⟨c,j,rfl⟩:=fy.1 hb;have i:=s c j;have f:=(F c i).1 j;have u:c<r.length:=by omega
    simp only[jx,gg u,pP];rw[H c u i f];have:=(h.rM A (List.mem_of_mem_tail (p1.mem_iff.1 ha))).2;simp only;omega
end
end
section
open Go.RowKit
theorem Cn(h:(kJ.toList.drop n).take l.length=l):∀a (b:a<l.length),kJ[n+a]? =some l[a]:=by intro a b;have c:=congrArg (λd:fY=>d[a]?) h;simp only[Qy,b,nV,S6,V7,gg] at c;exact c
theorem eQ.load{P:Program}{w:eI}{g:Nat}(h:eQ w g f kJ)(a:ik)(b:Nat)(l:fY)(j:(kJ.toList.drop b).take l.length=l)(c:TypeDesc)(k:P.underlying a=some c)(m:S7 c=true)(d:(P.info? a).map (·.size)=some l.length):
 (loadVar a (eJ g b)).run P w=.ok (fV l.toArray) w:=jo w g b a l c (λi d=>h.cell (b+i) (Cn j i d)) k m d
theorem fR{P:Program}{b:eI->Prop}{c:Act->Prop}{a d:Act}{rest:List Oper}(i:kE.guard=none)(f:ik)(g:Operand)(j:kE.op=.load f g)(A:Addr)(v:eS)(k:a.eval g=.pointer (some A))(l:∀w,b w->(loadVar f A).run P w=.ok v w)(m:a.put kE.dst v=d)(h:wpQuiet P kG b c rest d):wpQuiet P kG b c (kE::rest) a:=by
 have n:Region.wanted kE (yielded kG a.tmps)=true:=by simp[Region.wanted,i]
 unfold wpQuiet;rw[fW n];refine⟨v,λw o=> ?_,by rw[m];exact h⟩;unfold Oper.quietAt;have:=l w o;simp[execOp,j,k,Instr.loadAt,Instr.sureAddr,this,Result.andThen,Oper.quietUpon]
theorem eK{P:Program}{rest:List Oper}{w:eI}{b:Exit->Act->eI->Prop}(d:kE.guard=none)(c:ik)(x:Operand)(f:kE.op=.load c x)(A:Addr)(g:a.eval x=.pointer (some A))(v:eS)(i:(loadVar c A).run P w=.ok v w)(h:wpList P kG b rest (a.put kE.dst v) w):wpList P kG b (kE::rest) a w:=by refine ul d λk j=> ?_;unfold Oper.wp;simp[execOp,f,g,Instr.loadAt,Instr.sureAddr,i,Result.andThen];exact j _ _ h
theorem yI{c:Func}{d q:Tmp}{g:ik}(h:c.results=#[.cell d f,.cell q g]){b:kx}{P:Program}{a:eI}{i j:Addr}{k l:eS}(m:b.getD d undef=.pointer (some i))(n:b.getD q undef=.pointer (some j))(o:(loadVar f i).run P a=.ok k a)(p:(loadVar g j).run P a=.ok l a):(results c b).run P a=.ok (ij #[k,l]) a:=by simp only[Sl] at m n;simp only[results,h];simp[nU,Result.andThen,m,n,o,p,asAddr]
theorem Eo{c:Func}{d q g:Tmp}{i:ik}(h:c.results=#[.cell d f,.cell q i,.tmp g]){b:kx}{P:Program}{a:eI}{j k:Addr}{l m:eS}(n:b.getD d undef=.pointer (some j))(o:b.getD q undef=.pointer (some k))(p:(loadVar f j).run P a=.ok l a)(r:(loadVar i k).run P a=.ok m a):(results c b).run P a=.ok (ij #[l,m,b.getD g undef]) a:=by simp only[Sl] at n o;simp only[results,h];simp[nU,Result.andThen,n,o,p,r,asAddr]
theorem Co{c:Func}{d q g i:Tmp}{j:ik}(h:c.results=#[.cell d f,.tmp g,.cell q j,.tmp i]){b:kx}{P:Program}{a:eI}{A k:Addr}{l m:eS}(n:b.getD d undef=.pointer (some A))(o:b.getD q undef=.pointer (some k))(p:(loadVar f A).run P a=.ok l a)(r:(loadVar j k).run P a=.ok m a):(results c b).run P a=.ok (ij #[l,b.getD g undef,m,b.getD i undef]) a:=by simp only[Sl] at n o;simp only[results,h];simp[nU,Result.andThen,n,o,p,r,asAddr]
theorem oY{c:Func}{d g:Tmp}(h:c.results=#[.cell d f,.tmp g]){b:kx}{P:Program}{a:eI}{A:Addr}{i:eS}(j:b.getD d undef=.pointer (some A))(k:(loadVar f A).run P a=.ok i a):(results c b).run P a=.ok (ij #[i,b.getD g undef]) a:=by simp only[Sl] at j;simp only[results,h];simp[Result.andThen,j,k,asAddr]
theorem iN{a:Func}{p:Tmp}(h:a.results=#[.cell p f]){b:kx}{P:Program}{w:eI}{A:Addr}{x:eS}(c:b.getD p undef=.pointer (some A))(d:(loadVar f A).run P w=.ok x w):(results a b).run P w=.ok x w:=by simp only[Sl] at c;simp only[results,h];simp[c,d,asAddr]
theorem eG{P:Program}{rest:List Oper}{a:Act}{w:eI}{i:Exit->Act->eI->Prop}(k:kE.guard=none)(f:ik)(x v:Operand)(l:kE.op=.store f x v)(g:Nat)(m:a.eval x=fw g)(b:fY)(n:a.eval v=fV b.toArray){j:ik}{d:kx}(o:eQ w g j d)(p:∀u∈b,u.oneCell'=true)(r:(P.info? f).map (·.size)=some b.length)(s:b.length=d.size)(h:∀c,eQ c g j b.toArray->w.grownBy c (some g)->wpList P kG i rest (a.put kE.dst undef) c):wpList P kG i (kE::rest) a w:=by
 refine gI k f x v l g 0 m (fV b.toArray) n b rfl o p r (by omega) λc t y=>h c ?_ y;have:d.toList.take 0++b++d.toList.drop (0+b.length)=b:=by rw[uu,j6,tC (by simp[s]),ox]
 rwa [this] at t
theorem eQ.fK{P:Program}{w:eI}{g:Nat}{l:fY}(h:eQ w g f l.toArray)(a:ik)(b:TypeDesc)(c:P.underlying a=some b)(d:S7 b=true)(i:(P.info? a).map (·.size)=some l.length):
 (loadVar a (eJ g 0)).run P w=.ok (fV l.toArray) w:=h.load a 0 l (by simp) b c d i
theorem KW.eH{bs:fe}(u:KW bs w){g:Nat}{a:ik}{b:kx}(h:eQ w g a b)(c:g∈bs):eQ u.w g a b:=(u.2 g c).trans h
theorem ng{P:Program}{rest:List Oper}{w:eI}{p:Exit->Act->eI->Prop}(r:kE.guard=none)(g e:ik)(b:Nat)(parts:Array (Nat×Operand))(s:kE.op=.buildSlice g b parts)(c:List fY)(k:Nat)(t:(parts.map λ(i,f)=>(i,a.eval f)).toList=((c.map λl=>Value.agg l.toArray).zipIdx 0).map λf=>(f.2,f.1))(j:c.length=b)(u:P.underlying g=some (.slice e))(d:(P.info? e).map (λi=>(i.zero.isSome,i.size))=some (true,k))(v:∀l∈c,l.length=k)(m:0<k/\0<b/\b*k<=2^24)(h:wpList P kG p rest (a.put kE.dst (.slice (some ⟨w.heap.size,0,none⟩) b b)) (w.alloc (.cells (c.flatMap id).toArray e))):wpList P kG p (kE::rest) a w:=by
 cases n:P.info? e with
 |none=>simp[n] at d
 |some x=>
  simp only[n,qO,fd,rH] at d;obtain⟨o,y⟩:=Option.isSome_iff_exists.1 d.1;have B:=Nat.mul_pos m.2.1 m.1;refine wpList_buildSlice r g e b parts s (c.flatMap id).toArray x o u n y (by rw[d.2];omega) (by rw[d.2];omega) ?_ h;rw[t,d.2];have z:=Great.fill_whole m.1 (c.map λl=>fV l.toArray) ((Array.range (b*k)).map (o.cells[· %o.cells.size]!)) (λC A=>by obtain⟨l,j,rfl⟩:=fy.1 A;exact v l j) (by simp[j])
  rw[z,List.flatMap_map];rfl
theorem jF{P:Program}{rest:List Oper}{c:Exit->Act->eI->Prop}(f:kE.guard=none)(b e:ik)(d:Operand)(g:kE.op=.buildSlice b 1 #[(0,d)])(l:fY)(k:Nat)(j:a.eval d=fV l.toArray)(m:P.underlying b=some (.slice e))(n:(P.info? e).map (λi=>(i.zero.isSome,i.size))=some (true,k))(o:l.length=k)(r:0<k/\k<=2^24)(h:wpList P kG c rest (a.put kE.dst (fN w 1 1)) (w.alloc (eN l.toArray e))):wpList P kG c (kE::rest) a w:=
 ng f b e 1 _ g [l] k (by simp[j]) rfl m n (by intro s p;obtain rfl:=fF.1 p;exact o) (by omega) (by simpa using h)
end
section
theorem AS.go{a:Nat->Nat}{d G:Nat->fe}(h:AS n a d G){i b:Nat}(g:i<n)(j:RT d i b):b<n/\RT G (a i) (a b):=by
 induction j with
 |refl=>exact⟨g,.refl _⟩
 |step _ f c=>have k:=h.lt _ c.1 _ f;refine⟨k,c.2.step ?_⟩;rw[<-h.map _ c.1];exact fy.2 ⟨_,f,rfl⟩
theorem AS.Q7{b:Nat->Nat}{c G:Nat->fe}(h:AS n b c G){i y:Nat}(j:i<n)(k:RT G (b i) y):∃a,a<n/\b a=y/\RT c i a:=by
 induction k with
 |refl=>exact⟨i,j,rfl,.refl _⟩
 |step _ d l=>obtain⟨a,f,m,o⟩:=l;rw[<-m,<-h.map _ f] at d;obtain⟨p,g,r⟩:=fy.1 d;exact⟨p,h.lt _ f _ g,r,o.step g⟩
def By(l:List Ob)(id:Nat):List Ob:=(l.filter λo=>decide (o.id≠id)).map λo=>{o with eP:=o.eP.filter λx=>decide (x≠id)}
def qG(l:List Ob)(ids:fe):List Ob:=ids.foldl By l
theorem qH:∀(c:fe) (b:List Ob),qG b c=(b.filter λa=>decide (a.id∉c)).map λa=>{a with eP:=a.eP.filter λd=>decide (d∉c)}
 |[],b=>by
  have f:(b.filter λa=>decide (a.id∉([]:fe)))=b:=JL.2 λa _=>by simp
  have i:∀a:Ob,({a with eP:=a.eP.filter λd=>decide (d∉([]:fe))}:Ob)=a:=λa=>by
   have:a.eP.filter (λd=>decide (d∉([]:fe)))=a.eP:=JL.2 λd _=>by simp
   rw[this]
  rw[f]
  simp only[i,List.map_id']
  rfl
 |id::c,b=>by
  have e:qG b (id::c)=qG (By b id) c:=rfl
  rw[e,qH c (By b id)]
  unfold By
  rw[OB,jL,List.filter_filter]
  have f:(b.filter λg=>((λa:Ob=>decide (a.id∉c))∘λa=>{a with eP:=a.eP.filter λd=>decide (d≠id)}) g&&decide (g.id≠id))=b.filter λa=>decide (a.id∉id::c):=by
   refine E3 λa _=> ?_;simp only[uE,fm,wJ,Bool.decide_and,IY,nY];exact Bool.and_comm _ _
  rw[f];refine mP λa _=> ?_;simp only[uE,List.filter_filter];congr 1
  refine E3 λd _=> ?_;simp only[fm,wJ,Bool.decide_and,IY,nY];exact Bool.and_comm _ _
theorem Bz{i:Type}(d:i->Nat):∀(b c:List i),b.Perm c->b.Pairwise (λa y=>d a<d y)->c.Pairwise (λa y=>d a<d y)->b=c
 |[],c,h,_,_=>(Gc (by simpa using h.length_eq.symm)).symm
 |a::b,[],h,_,_=>by have:=h.length_eq;simp at this
 |a::b,y::c,h,j,k=>by
  obtain⟨l,m⟩:=rD.1 j
  obtain⟨n,o⟩:=rD.1 k
  have p:a=y:=by
   have f:a∈y::c:=h.mem_iff.1 (by simp);have g:y∈a::b:=h.mem_iff.2 (by simp);rcases fm.1 f with e|f
   ·exact e
   ·rcases fm.1 g with e|g
    ·exact e.symm
    ·have:=l y g;have:=n a f;omega
  subst p;rw[Bz d b c (List.Perm.cons_inv h) m o]
section
variable {G:Nat->fe} {N:Nat} {l:List Ob} {last inits:Nat} {order:fe}
theorem K3(hG:∀Q,∀d∈G Q,Q<d/\d<=N)(h:p9 G N l last inits order){at_ roots stay:fe}(R:G 0=[])(T:∀m∈roots,m∈order)(H:∀i (g:i<l.length),i∈at_↔l[i].keep=true\/l[i].fQ∈roots)(ag:∀i∈at_,i<l.length)(x:∀c,c∈stay↔∃m,m∈roots/\RT G m c){z:Nat->Bool}(ah:∀i,i<l.length->(z i=true↔∃m,m∈at_/\RT (zL l) m i)){j:List Ob}(ai:∀a,a∈j↔∃i,∃g:i<l.length,l[i]=a/\z i=false)(U:j.Pairwise λs t=>t.gE<s.gE):
 j.map Ob.fQ=order.reverse.filter (λc=>decide (c∉stay))/\p9 G N (qG l (j.map Ob.id)) last inits (order.filter λc=>decide (c∈stay)):=by
 have V:=Sh (G:=G) h.ids h.qy h.eP;obtain⟨m,I⟩:=h.prog;have A:∀o (B:o<l.length),kr l o=l[o].fQ:=λo B=>by simp only[kr,gg B]
 have W:∀i (g:i<l.length),(z i=true↔l[i].fQ=0\/l[i].fQ∈stay):=λi g=>by
  rw[ah i g];constructor
  ·rintro⟨q,k,J⟩;have C:=ag q k;obtain⟨_,D⟩:=V.go C J;rw[A q C,A i g] at D;rcases(H q C).1 k with f|f
   ·rw[h.keep _ (eU C),sT] at f;left
    rw[f] at D;exact D.mO (S:=(· =0)) (λc r d f=>by subst r;rw[R] at f;cases f) rfl
   ·exact .inr ((x _).2 ⟨_,f,D⟩)
  ·rintro(e|hm)
   ·refine⟨i,(H i g).2 (.inl ?_),.refl _⟩;rw[h.keep _ (eU g),e];rfl
   ·obtain⟨d,f,J⟩:=(x _).1 hm;obtain⟨a,b,rfl⟩:=(h.mem d (h.nodup.2 d (T d f)).1).1 (T d f);obtain⟨q,k,rfl⟩:=gN b;obtain⟨o,n,u,h3⟩:=V.Q7 (i:=q) (y:=l[i].fQ) k (by rw[A q k];exact J);rw[A o n] at u;have:o=i:=fZ h.qy (by simpa using n) (by simpa using g) (by simpa using u);subst this;exact⟨q,(H q k).2 (.inr f),h3⟩
 have K:∀a,a∈j↔a∈l/\a.fQ≠0/\a.fQ∉stay:=λa=>by
  rw[ai];constructor
  ·rintro⟨i,g,rfl,n⟩;have:=(not_congr (W i g)).1 (by rw[n];decide);exact⟨eU g,λe=>this (.inl e),λe=>this (.inr e)⟩
  ·rintro⟨b,n,u⟩;obtain⟨i,g,rfl⟩:=gN b;refine⟨i,g,rfl, ?_⟩;cases k:z i with
   |false=>rfl
   |true=>rcases(W i g).1 k with e|e
          ·exact absurd e n
          ·exact absurd e u
 have X:∀a∈l,(a.id∈j.map Ob.id↔a.fQ≠0/\a.fQ∉stay):=λa b=>by
  rw[fy];constructor
  ·rintro⟨q,k,e⟩;have Y:=(K q).1 k;obtain⟨i,g,rfl⟩:=gN b;obtain⟨o,B,rfl⟩:=gN Y.1;have:o=i:=fZ h.ids (by simpa using B) (by simpa using g) (by simpa using e);subst this;exact Y.2
  ·rintro L;exact⟨a,(K a).2 ⟨b,L⟩,rfl⟩
 obtain⟨p,Z,p2,M⟩:=h.Ua;have aj:∀a,a∈p↔a∈l/\a.fQ≠0:=λa=>by
  rw[Z.mem_iff];have v:=h.qy;subst I;simp only[hU,ph] at v;constructor
  ·intro b;exact⟨gD _ b,λe=>v.1 (fy.2 ⟨a,b,e⟩)⟩
  ·rintro⟨b,n⟩;rcases fm.1 b with rfl|b
   ·exact absurd rfl n
   ·exact b
 refine⟨?_, ?_⟩
 ·have e:j.reverse=p.filter (λa=>decide (a.fQ∉stay)):=by
   refine Bz Ob.gE _ _ ?_ (Sz.2 U) (M.filter _);refine(Sj ?_ ?_).2 λa=> ?_
   ·exact Sz.2 (U.imp λh e=>by subst e;omega)
   ·exact(M.imp (S:=(· ≠·)) λh e=>by subst e;omega).filter _
   ·simp only[List.mem_reverse,K,jb,aj,jh,and_assoc]
  rw[<-List.reverse_reverse j,e,OC,<-p2,<-OC,<-OC,OB,List.filter_reverse];rfl
 ·rw[qH];have n:(l.filter λa=>decide (a.id∉j.map Ob.id))=l.filter λa=>decide (a.fQ=0\/a.fQ∈stay):=by
   refine E3 λa b=> ?_;have:=X a b;congr 1
   rw[eq_iff_iff,this,Classical.not_and_iff_not_or_not,Classical.not_not,Classical.not_not]
  rw[n];have ad:∀a∈l,(a.fQ=0\/a.fQ∈stay)->∀(s t:fe),qw (λi d=>∃p∈l,p.id=i/\p.fQ=d) s t->(∀d∈t,d∈G a.fQ)->(∀c∈s,c∉j.map Ob.id)/\qw (λi d=>∃p∈l.filter (λa=>decide (a.fQ=0\/a.fQ∈stay)),p.id=i/\p.fQ=d) s t:=λa b hs s t ha O=>by
   induction ha with
   |nil=>exact⟨by simp,.nil⟩
   |cons L _ ih=>
    obtain⟨q,k,rfl,rfl⟩:=L;obtain⟨i1,i2⟩:=ih λd f=>O d (gD _ f);have ae:q.fQ∈stay:=by
     rcases hs with e|e
     ·have:=O q.fQ (by simp);rw[e,R] at this;cases this
     ·obtain⟨m,ak,al⟩:=(x _).1 e;exact(x _).2 ⟨m,ak,al.step (O q.fQ (by simp))⟩
    refine⟨λc r=> ?_,.cons ⟨q,jb.2 ⟨k,by simp[ae]⟩,rfl,rfl⟩ i2⟩;rcases fm.1 r with rfl|r
    ·exact λhm=>((X q k).1 hm).2 ae
    ·exact i1 c r
  have u:((l.filter λa=>decide (a.fQ=0\/a.fQ∈stay)).map λa=>{a with eP:=a.eP.filter λc=>decide (c∉j.map Ob.id)})=l.filter λa=>decide (a.fQ=0\/a.fQ∈stay):=by rw[show ∀E:List Ob,(E.map λa=>{a with eP:=a.eP.filter λc=>decide (c∉j.map Ob.id)})=E↔(E.map λa=>{a with eP:=a.eP.filter λc=>decide (c∉j.map Ob.id)})=E.map λa=>a by simp];refine mP λa b=> ?_;obtain⟨w,P⟩:=jb.1 b;have:=(ad a w (by simpa using P) _ _ (h.eP a w) λd f=>f).1;rw[JL.2 λc r=>by simpa using this c r]
  rw[u];have af:(l.filter λa=>decide (a.fQ=0\/a.fQ∈stay)).Sublist l:=Ru;have F:∀a∈l.filter (λa=>decide (a.fQ=0\/a.fQ∈stay)),a∈l:=λa b=>(jb.1 b).1;refine⟨?_,(af.map _).nodup h.ids,λa b=>h.le a (F a b),(af.map _).nodup h.qy,λa b=>h.QV a (F a b),λa b=> ?_,λa b=>h.rM a (F a b),λa b=>h.keep a (F a b),p.filter (λa=>decide (a.fQ∈stay)), ?_, ?_,M.filter _⟩
  ·subst I;exact⟨m.filter λa=>decide (a.fQ=0\/a.fQ∈stay),by rw[UO (by simp)]⟩
  ·obtain⟨w,P⟩:=jb.1 b;exact(ad a w (by simpa using P) _ _ (h.eP a w) λd f=>f).2
  ·have e:(l.filter λa=>decide (a.fQ=0\/a.fQ∈stay)).tail=l.tail.filter λa=>decide (a.fQ∈stay):=by have v:=h.qy;subst I;rw[UO (by simp),OD,OD];simp only[hU,ph] at v;refine E3 λa b=> ?_;have:a.fQ≠0:=λe=>v.1 (fy.2 ⟨a,b,e⟩);simp[this]
   rw[e];exact Z.filter _
  ·rw[<-p2,OB];rfl
end
end
section
structure Hn where
 h:Nat
 gL:Nat
 count:Nat
def Hn.more(x:Hn):Hn:={x with count:=x.count+1}
def Hn.nS(x:Hn):Hn:={x with count:=x.count- 1}
def mW(f:Hn->Hn)(hs:List Hn)(h:Nat):List Hn:=hs.map λy=>if y.h=h then f y else y
def oE(hs:List Hn)(h:Nat):List Hn:=hs.filter λy=>decide (y.h≠h)
structure kw(G:Nat->fe)(N:Nat)(l:List Ob)(last inits:Nat)(order:fe)(hs:List Hn)(next:Nat)(cnt hnd:Nat->Nat):Prop where
 sh:p9 G N l last inits order
 one:⟨1,1,1⟩∈hs
 hn:(hs.map Hn.h).Nodup
 hr:(hs.map Hn.gL).Nodup
 le:∀x∈hs,0<x.h/\x.h<=next/\0<x.count
 IZ:∀n,1<=n->n<=N->0<cnt n->∃x∈hs,x.h=hnd n/\x.h≠1/\x.count=cnt n/\∃o∈l,o.id=x.gL/\o.fQ=n
 SB:∀x∈hs,x.h≠1->∃n,1<=n/\n<=N/\0<cnt n/\x.h=hnd n/\∃o∈l,o.id=x.gL/\o.fQ=n
 p7:∀y∈order,∃n,1<=n/\n<=N/\0<cnt n/\RT G n y
def km(f:Nat->Nat)(n v:Nat):Nat->Nat:=λk=>if k=n then v else f k
theorem nT{a:List Ob}(h:(a.map Ob.id).Nodup){b c:Ob}(d:b∈a)(f:c∈a)(e:b.id=c.id):b=c:=by obtain⟨i,g,rfl⟩:=gN d;obtain⟨j,k,rfl⟩:=gN f;have:=fZ h (i:=i) (j:=j) (by simpa using g) (by simpa using k) (by simpa using e);subst this;rfl
theorem xx{l:List Ob}(h:(l.map Ob.fQ).Nodup){a b:Ob}(c:a∈l)(d:b∈l)(e:a.fQ=b.fQ):a=b:=by obtain⟨i,f,rfl⟩:=gN c;obtain⟨j,g,rfl⟩:=gN d;have:=fZ h (i:=i) (j:=j) (by simpa using f) (by simpa using g) (by simpa using e);subst this;rfl
theorem mR{a:List Hn}(h:(a.map Hn.h).Nodup){b c:Hn}(d:b∈a)(f:c∈a)(e:b.h=c.h):b=c:=by obtain⟨i,g,rfl⟩:=gN d;obtain⟨j,k,rfl⟩:=gN f;have:=fZ h (i:=i) (j:=j) (by simpa using g) (by simpa using k) (by simpa using e);subst this;rfl
theorem nG(a:Hn->Hn)(c:∀y,(a y).h=y.h)(b:List Hn)(h:Nat):(mW a b h).map Hn.h=b.map Hn.h:=by
 simp only[mW,jL];refine mP λd _=> ?_;simp only[uE];split
 ·exact c d
 ·rfl
theorem zj(a:Hn->Hn)(d:∀b,(a b).gL=b.gL)(c:List Hn)(h:Nat):(mW a c h).map Hn.gL=c.map Hn.gL:=by
 simp only[mW,jL];refine mP λf _=> ?_;simp only[uE];split
 ·exact d f
 ·rfl
theorem jd{f:Hn->Hn}{c:List Hn}{h:Nat}{y:Hn}:y∈mW f c h↔∃x∈c,y=if x.h=h then f x else x:=by simp only[mW,fy];exact⟨λ⟨x,a,b⟩=>⟨x,a,b.symm⟩,λ⟨x,a,b⟩=>⟨x,a,b.symm⟩⟩
section
variable {G:Nat->fe} {N:Nat} {l:List Ob} {last inits:Nat} {order:fe} {hs:List Hn} {next:Nat} {cnt hnd:Nat->Nat}
theorem kw.CN(h:kw G N l last inits order hs next cnt hnd):⟨1,0,[],1,true⟩∈l:=by obtain⟨a,e⟩:=h.sh.prog;rw[e];exact gM ..
theorem kw.OE(h:kw G N l last inits order hs next cnt hnd){a:Nat}(b:1<=a)(c:a<=N)(d:0<cnt a):a∈order:=by obtain⟨j,_,_,_,_,f,g,_,i⟩:=h.IZ a b c d;exact(h.sh.mem a b).2 ⟨f,g,i⟩
theorem kw.held(h:kw G N l last inits order hs next cnt hnd){n:Nat}(m:1<=n)(o:n<=N){a:Ob}(c:a∈l)(d:a.fQ=n){x:Hn}(b:x∈hs)(f:x.gL=a.id):x.h=hnd n/\x.h≠1/\x.count=cnt n/\0<cnt n:=by
 have g:x.h≠1:=λe=>by have:=mR h.hn b h.one e;subst this;have:=nT h.sh.ids c h.CN f.symm;subst this;simp only at d;omega
 obtain⟨i,y,z,j,k,p,r,s,t⟩:=h.SB x b g;have:p=a:=nT h.sh.ids r c (s.trans f);subst this;obtain rfl:i=n:=t.symm.trans d;obtain⟨A,u,v,_,w,_⟩:=h.IZ i m o j;have:=mR h.hn u b (v.trans k.symm);subst this;exact⟨k,g,w,j⟩
theorem kw.TG(h:kw G N l last inits order hs next cnt hnd){b:Nat}(y:1<=b)(z:b<=N){u:List Ob}{O P:Nat}{A:fe}(v:p9 G N u O P (order++A))(Q:∀j∈l,∃k∈u,k.id=j.id/\k.fQ=j.fQ)(hm:∀d∈A,RT G b d){j:Ob}(p:j∈u)(r:j.fQ=b):
 (∀a∈hs,a.gL=j.id->kw G N u O P (order++A) (mW Hn.more hs a.h) next (km cnt b (cnt b+1)) (km hnd b a.h)/\a.count=cnt b/\0<cnt b/\a.h=hnd b)/\
 ((∀a∈hs,a.gL≠j.id)->kw G N u O P (order++A) (hs++[⟨next+1,j.id,1⟩]) (next+1) (km cnt b (cnt b+1)) (km hnd b (next+1))/\cnt b=0):=by
 have ah:∀a∈hs,a.gL=j.id->a.h=hnd b/\a.h≠1/\a.count=cnt b/\0<cnt b:=λa f s=>by
  by_cases B:a.h=1
  ·have:=mR h.hn f h.one B;subst this;obtain⟨o1,ai,aj,ak⟩:=Q _ h.CN;have:=nT v.ids ai p (aj.trans s);subst this;simp only at ak;omega
  ·obtain⟨m,K,L,M,C,k,Y,Z,ar⟩:=h.SB a f B;obtain⟨o2,al,am,an⟩:=Q k Y;have:=nT v.ids al p (am.trans (Z.trans s));subst this;have:k.fQ=b:=an.symm.trans r;exact h.held y z Y this f Z.symm
 have w:∀a∈hs,a.h≠1->∀m,(∃k∈l,k.id=a.gL/\k.fQ=m)->∃k∈u,k.id=a.gL/\k.fQ=m:=λa f ad m ⟨k,o,i,t⟩=>by obtain⟨o2,n,e,ao⟩:=Q k o;exact⟨o2,n,e.trans i,ao.trans t⟩
 have ae:∀d∈order++A,∃g,1<=g/\g<=N/\0<km cnt b (cnt b+1) g/\RT G g d:=λd c=>by
  rcases gu.1 c with c|c
  ·obtain⟨g,o,i,t,n⟩:=h.p7 d c;refine⟨g,o,i, ?_,n⟩;unfold km;split
   ·omega
   ·exact t
  ·exact⟨b,y,z,by simp[km],hm d c⟩
 refine⟨λa f s=> ?_,λaf=> ?_⟩
 ·obtain⟨B,e2,e3,e4⟩:=ah a f s;refine⟨⟨v, ?_,by rw[nG Hn.more (λ_=>rfl)];exact h.hn,by rw[zj Hn.more (λ_=>rfl)];exact h.hr,λd c=> ?_,λg R S D=> ?_,λd c x=> ?_,ae⟩,e3,e4,B⟩
  ·exact jd.2 ⟨_,h.one,by rw[fG (λe=>e2 e.symm)]⟩
  ·obtain⟨E,F,rfl⟩:=jd.1 c;have:=h.le E F;split
   ·exact⟨this.1,this.2.1,Om _⟩
   ·exact this
  ·by_cases e:g=b
   ·subst e;refine⟨a.more,jd.2 ⟨a,f,by rw[fW rfl]⟩,by simp[km,Hn.more],e2,by simp[km,Hn.more,e3],j,p,s.symm,r⟩
   ·simp only[km,fG e] at D ⊢;obtain⟨d,c,o,i,t,n⟩:=h.IZ g R S D;have ad:d.h≠a.h:=λH=>by have:=mR h.hn c f H;subst this;obtain⟨o3,T,U,V⟩:=w d c i g n;have:=nT v.ids T p (U.trans s);subst this;exact e (V.symm.trans r)
    exact⟨d,jd.2 ⟨d,c,by rw[fG ad]⟩,o,i,t,w d c i g n⟩
  ·obtain⟨E,F,rfl⟩:=jd.1 c;by_cases e:E.h=a.h
   ·have:=mR h.hn F f e;subst this;rw[fW rfl];exact⟨b,y,z,by simp[km],by simp[km,Hn.more],j,p,s.symm,r⟩
   ·rw[fG e] at x ⊢;obtain⟨m,K,L,M,C,W⟩:=h.SB E F x;have I:m≠b:=λH=>by subst H;exact e (C.trans B.symm)
    exact⟨m,K,L,by simpa[km,I] using M,by simpa[km,I] using C,w E F x m W⟩
 ·have ag:cnt b=0:=by
   rcases x5 (cnt b) with e|e
   ·exact e
   ·obtain⟨a,f,_,i,_,n⟩:=h.IZ b y z e;obtain⟨o3,T,U,V⟩:=w a f i b n;have:=xx v.qy T p (V.trans r.symm);subst this;exact absurd U.symm (af a f)
  have ap:∀a∈hs,a.h≠next+1:=λa f=>by have:=h.le a f;omega
  have aq:=h.le _ h.one;refine⟨⟨v,iL _ h.one, ?_, ?_,λd c=> ?_,λg R S D=> ?_,λd c x=> ?_,ae⟩,ag⟩
  ·rw[iC,kF];refine⟨h.hn,by simp,λo X i J=> ?_⟩;obtain⟨a,f,rfl⟩:=fy.1 X;simp only[hU,jt,fF] at J;subst J;exact ap a f
  ·rw[iC,kF];refine⟨h.hr,by simp,λo X i J=> ?_⟩;obtain⟨a,f,rfl⟩:=fy.1 X;simp only[hU,jt,fF] at J;subst J;exact af a f
  ·rcases gu.1 c with c|c
   ·have:=h.le d c;omega
   ·obtain rfl:=fF.1 c;exact⟨Om _,fJ _,Nat.one_pos⟩
  ·by_cases e:g=b
   ·subst e;refine⟨_,gT _ (fF.2 rfl),by simp[km], ?_,by simp[km,ag],j,p,rfl,r⟩;simp only at aq ⊢;omega
   ·simp only[km,fG e] at D ⊢;obtain⟨d,c,o,i,t,n⟩:=h.IZ g R S D;exact⟨d,iL _ c,o,i,t,w d c i g n⟩
  ·rcases gu.1 c with c|c
   ·obtain⟨m,K,L,M,C,W⟩:=h.SB d c x;have I:m≠b:=λH=>by subst H;omega
    exact⟨m,K,L,by simpa[km,I] using M,by simpa[km,I] using C,w d c x m W⟩
   ·obtain rfl:=fF.1 c;exact⟨b,y,z,by simp[km],by simp[km],j,p,rfl,r⟩
theorem kw.Rv(h:kw G N l last inits order hs next cnt hnd){a:Nat}(y:1<=a)(z:a<=N)(S:1<cnt a):kw G N l last inits order (mW Hn.nS hs (hnd a)) next (km cnt a (cnt a- 1)) hnd:=by
 obtain⟨o,j,d,p,A,B,r,s,t⟩:=h.IZ a y z (by omega);refine⟨h.sh,jd.2 ⟨_,h.one,by rw[fG (λe=>p (d.trans e.symm))]⟩,by rw[nG Hn.nS (λ_=>rfl)];exact h.hn,by rw[zj Hn.nS (λ_=>rfl)];exact h.hr,λc b=> ?_,λg C D u=> ?_,λc b E=> ?_,λc b=> ?_⟩
 ·obtain⟨f,i,rfl⟩:=jd.1 b;have:=h.le f i;split
  ·rename_i e;have:=mR h.hn i j (e.trans d.symm);subst this;exact⟨this.1,this.2.1,by show 0<f.count- 1;omega⟩
  ·exact this
 ·by_cases e:g=a
  ·subst e;exact⟨o.nS,jd.2 ⟨o,j,by rw[fW d]⟩,d,p,by simp[km,Hn.nS,A],B,r,s,t⟩
  ·simp only[km,fG e] at u ⊢;obtain⟨c,b,k,m,n,F,v,w,x⟩:=h.IZ g C D u;have H:c.h≠hnd a:=λI=>by have:=mR h.hn b j (I.trans d.symm);subst this;have:=nT h.sh.ids v r (w.trans s.symm);subst this;exact e (x.symm.trans t)
   exact⟨c,jd.2 ⟨c,b,by rw[fG H]⟩,k,m,n,F,v,w,x⟩
 ·obtain⟨f,i,rfl⟩:=jd.1 b;have J:f.h≠1:=by revert E;split<;>exact id
  obtain⟨K,L,M,O,P,Q⟩:=h.SB f i J;refine⟨K,L,M, ?_, ?_, ?_⟩
  ·unfold km;split
   ·omega
   ·exact O
  ·split<;>exact P
  ·split<;>exact Q
 ·obtain⟨g,k,m,n,R⟩:=h.p7 c b;refine⟨g,k,m, ?_,R⟩;unfold km;split
  ·omega
  ·exact n
theorem kw.Rw(h:kw G N l last inits order hs next cnt hnd){b:Nat}(K:1<=b)(L:b<=N)(hc:cnt b=1){stay:fe}(x:∀f,f∈stay↔∃g,(1<=g/\g<=N/\0<km cnt b 0 g)/\RT G g f){u:List Ob}(M:p9 G N u last inits (order.filter λf=>decide (f∈stay)))(y:∀n∈l,n.fQ∈stay->∃z∈u,z.id=n.id/\z.fQ=n.fQ):kw G N u last inits (order.filter λf=>decide (f∈stay)) (oE hs (hnd b)) next (km cnt b 0) hnd:=by
 obtain⟨f,O,A,P,e3,n,Q,R,S⟩:=h.IZ b K L (by omega);have B:∀c,1<=c->c<=N->0<km cnt b 0 c->c∈stay:=λc j k m=>(x c).2 ⟨c,⟨j,k,m⟩,.refl _⟩;have o:∀a,a∈oE hs (hnd b)↔a∈hs/\a.h≠hnd b:=λa=>by simp[oE]
 have C:(oE hs (hnd b)).Sublist hs:=Ru;refine⟨M,(o _).2 ⟨h.one,λe=>P (A.trans e.symm)⟩,(C.map _).nodup h.hn,(C.map _).nodup h.hr,λa d=>h.le a ((o a).1 d).1,λc D E p=> ?_,λa d T=> ?_,λa d=> ?_⟩
 ·have e:c≠b:=λe=>by subst e;simp[km] at p
  have U:=p;simp only[km,fG e] at p ⊢;obtain⟨a,d,j,k,m,v,r,s,i⟩:=h.IZ c D E p;have V:a.h≠hnd b:=λW=>by have:=mR h.hn d O (W.trans A.symm);subst this;have:=nT h.sh.ids r Q (s.trans R.symm);subst this;exact e (i.symm.trans S)
  obtain⟨w,d1,d2,d3⟩:=y v r (by rw[i];exact B c D E U);exact⟨a,(o a).2 ⟨d,V⟩,j,k,m,w,d1,d2.trans s,d3.trans i⟩
 ·obtain⟨X,Y⟩:=(o a).1 d;obtain⟨t,F,H,Z,I,v,r,s,i⟩:=h.SB a X T;have e:t≠b:=λe=>by subst e;exact Y I
  have J:0<km cnt b 0 t:=by simpa[km,e] using Z
  obtain⟨w,d1,d2,d3⟩:=y v r (by rw[i];exact B t F H J);exact⟨t,F,H,J,I,w,d1,d2.trans s,d3.trans i⟩
 ·simp only[jb,jh] at d;obtain⟨g,⟨j,k,m⟩,ad⟩:=(x a).1 d.2;exact⟨g,j,k,m,ad⟩
theorem kw.E4(h:kw G N l last inits order hs next cnt hnd){c:Nat}(p:1<cnt c){d:fe}(g:∀f,f∈d↔∃a,(1<=a/\a<=N/\0<km cnt c (cnt c- 1) a)/\RT G a f):∀b∈order,b∈d:=λb i=>by
 obtain⟨j,k,m,n,o⟩:=h.p7 b i;refine(g b).2 ⟨j,⟨k,m, ?_⟩,o⟩;unfold km;split
 ·omega
 ·exact n
end
end
structure NS(s:OS)(id:Nat)(t:OS×fe):Prop where
 vd:∀o∈s.1,∃q∈t.1.1,q.id=o.id/\q.keep=o.keep/\(o.id≠id->q=o)
 le:s.2<=t.1.2
 new:∀y∈t.2,s.2<y/\y<=t.1.2/\∃q∈t.1.1,q.id=y/\q.eP=[]/\q.keep=false
 SJ:t.2.Pairwise (· < ·)
theorem oF{id tt:Nat}{l:List Ob}{q:Ob}(a:q∈l):(∃b∈f' id tt l,b.id=q.id/\b.keep=q.keep)/\(q.id≠id->q∈f' id tt l):=by refine⟨⟨_,fy.2 ⟨q,a,rfl⟩, ?_⟩,λh=>fy.2 ⟨q,a,by rw[fG h]⟩⟩;split<;>exact⟨rfl,rfl⟩
theorem NS.step{g:OS}{id:Nat}{t:OS×fe}(h:NS g id t)(gO:id<=g.2)(k:Nat):NS g id (jc id t k):=by
 unfold jc;simp only;have key:∀(l:List Ob) (tt:Nat),(∀b∈t.1.1,b∈l)->(∀b∈g.1,∃q∈f' id tt l,q.id=b.id/\q.keep=b.keep/\(b.id≠id->q=b))/\∀c∈t.2,∃q∈f' id tt l,q.id=c/\q.eP=[]/\q.keep=false:=λl tt n=>by
  refine⟨λb d=> ?_,λc a=> ?_⟩
  ·obtain⟨q,i,f,p,o⟩:=h.vd b d;by_cases e:b.id=id
   ·obtain⟨⟨r,s,u,v⟩,_⟩:=oF (id:=id) (tt:=tt) (n q i);exact⟨r,s,u.trans f,v.trans p,λw=>absurd e w⟩
   ·exact⟨q,(oF (n q i)).2 (by rw[f];exact e),f,p,o⟩
  ·obtain⟨j,m,q,i,f,o⟩:=h.new c a;exact⟨q,(oF (n q i)).2 (by omega),f,o⟩
 rcases p8 (l:=t.1.1) (k:=k) with⟨b,d,A,B⟩|⟨d,_⟩
 ·obtain⟨j,m⟩:=key t.1.1 b.id (λ_ h=>h);simp only[mf,d,Dc,ua];exact⟨j,h.le,λc a=>⟨(h.new c a).1,(h.new c a).2.1,m c a⟩,h.SJ⟩
 ·obtain⟨j,m⟩:=key (t.1.1++[⟨t.1.2+1,k,[],0,false⟩]) (t.1.2+1) (λ_ h=>iL _ h);simp only[mf,d,nV];have C:=h.le;refine⟨j,by simp only;omega,λc a=> ?_, ?_⟩
  ·rcases gu.1 a with a|a
   ·have:=h.new c a;exact⟨this.1,by simp only;omega,m c a⟩
   ·obtain rfl:=fF.1 a;exact⟨by omega,fJ _,_,(oF (gT _ (fF.2 rfl))).2 (by simp only;omega),rfl,rfl,rfl⟩
  ·rw[yg];refine⟨h.SJ,by simp,λx y D z=> ?_⟩;obtain rfl:=fF.1 z;have:=(h.new x y).2.1;omega
theorem E8(b:OS){id:Nat}(gO:id<=b.2)(a:fe):NS b id (nP b id a):=by
 have:∀(a:fe) (c:OS×fe),NS b id c->NS b id (a.foldl (jc id) c):=by
  intro a;induction a with
  |nil=>intro c h;exact h
  |cons d a f=>intro c h;exact f _ (h.step gO d)
 exact this a (b,[]) ⟨λg i=>⟨g,i,rfl,rfl,λ_=>rfl⟩,fJ _,by simp,by simp⟩
structure GS(s:OS)(news:fe)(k:Nat):Prop where
 SJ:news.Pairwise (· < ·)
 le:∀y∈news,y<=s.2/\∃o∈s.1,o.id=y/\o.keep=false
 bare:∀(j:Nat) y,k<=j->news[j]? =some y->∃o∈s.1,o.id=y/\o.eP=[]
theorem GS.step{l:OS}{k:Nat}(h:GS l r k)(u:k<r.length){v:fe}{t:OS}{more:fe}(e:nP l r[k] v=(t,more)):GS t (r++more) (k+1):=by
 have w:=E8 l (h.le _ (eU u)).1 v;rw[e] at w;obtain⟨m,A,i,x⟩:=w;simp only at m A i x;refine⟨?_,λd a=> ?_,λn d F a=> ?_⟩
 ·rw[yg];refine⟨h.SJ,x,λy B o C=> ?_⟩;have:=(h.le y B).1;have:=(i o C).1;omega
 ·rcases gu.1 a with a|a
  ·obtain⟨y,f,p,c,s⟩:=h.le d a;obtain⟨q,b,g,z,_⟩:=m f p;exact⟨by omega,q,b,g.trans c,z.trans s⟩
  ·obtain⟨_,o,q,b,c,_,s⟩:=i d a;exact⟨o,q,b,c,s⟩
 ·rcases m0 n r.length with j|j
  ·rw[qp j] at a;obtain⟨f,p,c,g⟩:=h.bare n d (by omega) a;obtain⟨q,b,z,_,D⟩:=m f p;have E:f.id≠r[k]:=by have G:=(jS.1 a).2;have:=jJ.1 h.SJ k n u j (by omega);omega
   rw[D E] at b;exact⟨f,b,c,g⟩
  ·rw[qq j] at a;obtain⟨_,_,q,b,c,g,_⟩:=i d (mp a);exact⟨q,b,c,g⟩
theorem CS{l:List Ob}(a:fe)(f:a.Pairwise (· < ·))(b:∀y∈a,∃g∈l,g.id=y):a.length<=l.length:=by
 have i:(a.map (sG l)).Nodup:=by refine jJ.2 λj k c d n e=> ?_;simp only[gW] at c d;simp only[jy] at e;have s:=jJ.1 f j k c d n;have o:=vG (qx (b _ (eU c)));have t:=vG (qx (b _ (eU d)));simp only[e] at o;omega
 have:=iM (m:=l.length) _ i (λu p=>by obtain⟨y,r,rfl⟩:=fy.1 p;exact qx (b y r))
 simpa using this
def pz(G:Nat->fe)(N:Nat)(s:OS)(k:Nat):OS×Nat×fe:=((nQ G (N+1) (mf s k).1 (if(mf s k).2.2 then[(mf s k).2.1] else[]) 0).1,(mf s k).2.1,(nQ G (N+1) (mf s k).1 (if(mf s k).2.2 then[(mf s k).2.1] else[]) 0).2)
theorem E9{c:Nat->fe}(a:Nat)(b:OS){news:fe}{k:Nat}(h:news.length<=k):nQ c a b news k=(b,news):=by
 cases a with
 |zero=>rfl
 |succ a=>unfold nQ;rw[tB h]
theorem E'{a:Nat->fe}(c:Nat)(b:OS){news:fe}{k:Nat}(h:k<news.length){t:OS}{more:fe}(e:nP b news[k] (a (yy b.1 news[k]))=(t,more)):nQ a (c+1) b news k=nQ a c t (news++more) (k+1):=by
 conv=>lhs;unfold nQ
 rw[gg h];simp only[e]
section
def qf(l l':List Ob):Prop:=∀p∈l,∃q∈l',q.id=p.id/\q.fQ=p.fQ
theorem qf.refl(l:List Ob):qf l l:=λa b=>⟨a,b,rfl,rfl⟩
theorem qf.trans{a b c:List Ob}(h:qf a b)(k:qf b c):qf a c:=λd f=>by obtain⟨q,g,i,j⟩:=h d f;obtain⟨l,m,n,o⟩:=k q g;exact⟨l,m,n.trans i,o.trans j⟩
theorem Fg(a:OS)(k:Nat):qf a.1 (mf a k).1.1/\∃b∈(mf a k).1.1,b.id=(mf a k).2.1/\b.fQ=k:=by
 rcases p8 (l:=a.1) (k:=k) with⟨b,e,c,d⟩|⟨e,_⟩
 ·unfold mf;rw[e];exact⟨.refl _,b,c,rfl,d⟩
 ·unfold mf;rw[e];exact⟨λf g=>⟨f,iL _ g,rfl,rfl⟩,_,gT _ (fF.2 rfl),rfl,rfl⟩
theorem zq(id:Nat):∀(b:fe) (a:OS×fe),qf a.1.1 (b.foldl (jc id) a).1.1
 |[],a=>.refl _
 |c::b,a=>by have d:qf a.1.1 (jc id a c).1.1:=(Fg a.1 c).1.trans λg f=>pt f;exact d.trans (zq id b (jc id a c))
theorem Fh(d:Nat->fe):∀(c:Nat) (a:OS) (b:fe) (at_:Nat),qf a.1 (nQ d c a b at_).1.1
 |0,a,b,at_=>.refl _
 |c+1,a,b,at_=>by
  unfold nQ;cases b[at_]? with
  |none=>exact .refl _
  |some id=>exact(zq id _ (a,[])).trans (Fh d c _ _ _)
theorem Fi{f:Nat->fe}{l:List Ob}(v:∀a,∀k∈f a,a<k/\k<=n){a:Nat}(O:1<=a)(w:a<=n)(x:∀b∈l,b.id<=m)(gO:(l.map Ob.id).Nodup)(j:(l.map Ob.fQ).Nodup){i:List Ob}{o p:Nat}{r:fe}(e:pz f n (l,m) a=((i,o),p,r)):
 ∃c,i=l++c/\o=m+c.length/\(∀b∈c,b.gE=0/\b.keep=false/\RT f a b.fQ/\b.fQ≠0)/\(∀d (h:d<c.length),c[d].id=m+1+d)/\(∀b∈c,jM f i b)/\(i.map Ob.fQ).Nodup/\∃b∈i,b.id=p/\b.fQ=a:=by
 have y:wZ f l a m (mf (l,m) a).1 (if(mf (l,m) a).2.2 then[(mf (l,m) a).2.1] else[]) 0 []:=by
  rcases p8 (l:=l) (k:=a) with⟨b,e,g,P⟩|⟨e,z⟩
  ·unfold mf;simp only[e];exact⟨⟨[],by simp,rfl,by simp,by simp,by simp,by simp⟩,j⟩
  ·unfold mf;simp only[e];refine⟨⟨[⟨m+1,a,[],0,false⟩],rfl,rfl,λb g=> ?_,λd h=> ?_,λd h=> ?_,rfl⟩, ?_⟩
   ·rw[fF.1 g];exact⟨rfl,rfl,.refl _,by simp only;omega⟩
   ·simp only[iw,jH] at h;obtain rfl:d=0:=by omega
    exact⟨λh=>by omega,λh=>by omega,λ_=>.nil⟩
   ·simp only[iw,jH] at h;obtain rfl:d=0:=by omega
    rfl
   ·simp only[iC,hU,jt];exact kF.2 ⟨j,by simp,λQ A R B e=>z (by rw[fF.1 B] at e;exact e▸A)⟩
 obtain⟨S,s,C,_⟩:=Ix v w x gO (n+1) _ _ 0 y (by omega);obtain⟨_,b,g,t,D⟩:=Fg (l,m) a;obtain⟨q,u,E,F⟩:=Fh f (n+1) (mf (l,m) a).1 (if(mf (l,m) a).2.2 then[(mf (l,m) a).2.1] else[]) 0 b g;unfold pz at e;simp only[rH] at e;obtain⟨f1,f2,f3⟩:=e;rw[f1,f3] at s;rw[f3] at C;rw[f1] at u;rw[f2] at t;obtain⟨⟨c,G,H,I,J,K,L⟩,M⟩:=s;have T:c.length=r.length:=by rw[<-H];simp
 refine⟨c,G,L,I,K,λb g=> ?_,M,q,u,E.trans t,F.trans D⟩;obtain⟨d,N,rfl⟩:=gN g;exact(J d N).1 (by omega)
theorem Fj:∀(c:fe) (a:List Ob) (b:Nat),qf a (pH a b c).1
 |[],a,b=>.refl _
 |id::c,a,b=>by have d:qf a (rP (a,b) id).1:=λf g=>⟨_,fy.2 ⟨f,g,rfl⟩,by split<;>rfl,by split<;>rfl⟩;exact d.trans (Fj c _ _)
def SL(hs hs':List Hn)(next next' gL hh:Nat):Prop:=(∃x∈hs,x.gL=gL/\hh=x.h/\hs'=mW Hn.more hs x.h/\next'=next)\/((∀x∈hs,x.gL≠gL)/\hh=next+1/\hs'=hs++[⟨next+1,gL,1⟩]/\next'=next+1)
def VW(l:List Ob)(j:Nat):Nat:=(l.getD j ⟨0,0,[],0,false⟩).id
section
variable {G:Nat->fe} {N:Nat} {l:List Ob} {last inits:Nat} {order:fe} {hs:List Hn} {next:Nat} {cnt hnd:Nat->Nat}
theorem Lh(g:∀a,∀i∈G a,a<i/\i<=N)(h:kw G N l last inits order hs next cnt hnd){a:Nat}(j:1<=a)(k:a<=N){b:List Ob}{t C:Nat}{O:fe}(e:pz G N (l,last) a=((b,t),C,O)){f:Nat}(D:N+1- a<=f){pl:fe}(u:∀c∈pl,c<b.length)(v:pl.map (kr b)=hJ G f a (qa b)){m:List Ob}{n:Nat}(E:(m,n)=pH b inits (pl.map (VW b))){F:List Hn}{w x:Nat}(P:SL hs F next w C x):
 pl.map (kr b)=hJ G f a order/\(∀c∈pl,kr b c≠0)/\kw G N m t n (order++hJ G f a order) F w (km cnt a (cnt a+1)) (km hnd a x)/\(0<cnt a->x=hnd a)/\n=inits+pl.length/\w<=next+1/\t<=last+b.length:=by
 obtain⟨o,rfl,rfl,Q,R,T,U,p,r,V,H⟩:=Fi g j k (λp r=>(h.sh.le p r).2) h.sh.ids h.sh.qy e;obtain⟨I,J⟩:=Nb g h.sh j k (Nat.le_add_right _ _) Q R rfl T U ⟨p,r,H⟩ D u v;have K:=oT g f a order k D;have y:n=inits+pl.length:=by
  have:=congrArg Prod.snd E;simp only at this;rw[this];have W:∀(d:fe) (l:List Ob) (a:Nat),(pH l a d).2=a+d.length:=by
   intro d;induction d with
   |nil=>intro l a;rfl
   |cons id d X=>intro l a;have:=X (rP (l,a) id).1 (a+1);simp only[pH,nK,rP] at this ⊢;rw[this,iw];omega
  rw[W,gW]
 have L:m=(pH (l++o) inits (pl.map λc=>((l++o).getD c ⟨0,0,[],0,false⟩).id)).1:=congrArg Prod.fst E;rw[<-L,<-y] at J;have M:qf (l++o) m:=by rw[L];exact Fj _ _ _
 obtain⟨q,Y,q1,Z⟩:=M p r;obtain⟨b1,b2⟩:=h.TG j k J (λad u=>M ad (iL _ u)) K.p7 Y (Z.trans H);have z:=q1.trans V;refine⟨v.trans I,λc hj e=> ?_, ?_⟩
 ·have hm:kr (l++o) c∈hJ G f a order:=by rw[<-I,<-v];exact fy.2 ⟨c,hj,rfl⟩
  have:=(K.p7 _ hm).mO (S:=(1<=·)) (λae _ i hk=>by have:=g ae i hk;omega) j;omega
 rcases P with⟨A,B,e3,rfl,rfl,rfl⟩|⟨af,rfl,rfl,rfl⟩
 ·obtain⟨s,c2,c3,c4⟩:=b1 A B (e3.trans z.symm);exact⟨s,λ_=>c4,y,by omega,by simp only[fT];omega⟩
 ·obtain⟨s,c2⟩:=b2 (λA B=>by rw[z];exact af A B);rw[z] at s;exact⟨s,λe=>by omega,y,fJ _,by simp only[fT];omega⟩
end
end
end
end Go.Proofs.YtoaehdgokeicoaaGreatDoor
namespace Go.Proofs
section
open Go.Shelf
def Tryz.pA:Go.Shelf.Ren:=⟨fun|6=>116|15=>135|14=>193|28=>215|29=>216|20=>269|21=>270|22=>271|23=>272|24=>273|25=>274|26=>275|27=>276|46=>329|47=>290|48=>291|49=>330|50=>331|57=>365|n=>n,fun|22=>23|24=>3|25=>290|3=>3|39=>316|0=>0|53=>334|55=>270|4=>4|46=>388|45=>387|50=>226|5=>5|9=>9|66=>469|70=>404|76=>511|77=>381|n=>n,fun|n=>n⟩
theorem Tryz.pM:Go.Proofs.SlLaysF.n6 Tryz.prog Tryz.pA:=by constructor<;>first|kernel_rfl|(intro _;kernel_rfl)|exact⟨Tryz.f116.name,by decide,Tryz.func116.trans (congrArg some (by kernel_rfl))⟩|exact⟨Tryz.f193.name,by decide,Tryz.func193.trans (congrArg some (by kernel_rfl))⟩|exact Tryz.func135.trans (congrArg some (by kernel_rfl))|exact⟨Tryz.f269.name,by decide,Tryz.func269.trans (congrArg some (by kernel_rfl))⟩|exact⟨Tryz.f270.name,by decide,Tryz.func270.trans (congrArg some (by kernel_rfl))⟩|exact⟨Tryz.f271.name,by decide,Tryz.func271.trans (congrArg some (by kernel_rfl))⟩|exact⟨Tryz.f272.name,by decide,Tryz.func272.trans (congrArg some (by kernel_rfl))⟩|exact⟨Tryz.f273.name,by decide,Tryz.func273.trans (congrArg some (by kernel_rfl))⟩|exact⟨Tryz.f274.name,by decide,Tryz.func274.trans (congrArg some (by kernel_rfl))⟩|exact⟨Tryz.f275.name,by decide,Tryz.func275.trans (congrArg some (by kernel_rfl))⟩|exact⟨Tryz.f276.name,by decide,Tryz.func276.trans (congrArg some (by kernel_rfl))⟩|exact Tryz.func215.trans (congrArg some (by kernel_rfl))|exact Tryz.func216.trans (congrArg some (by kernel_rfl))|exact⟨Tryz.f329.name,by decide,Tryz.func329.trans (congrArg some (by kernel_rfl))⟩|exact Tryz.func290.trans (congrArg some (by kernel_rfl))|exact Tryz.func291.trans (congrArg some (by kernel_rfl))|exact⟨Tryz.f330.name,by decide,Tryz.func330.trans (congrArg some (by kernel_rfl))⟩|exact⟨Tryz.f331.name,by decide,Tryz.func331.trans (congrArg some (by kernel_rfl))⟩|exact⟨Tryz.f365.name,by decide,Tryz.func365.trans (congrArg some (by kernel_rfl))⟩
open Go.RowKit Go.Lib Go.Sort in
theorem Tryz.slices_SortFunc_eq {d:Type} [Inhabited d] (f:d->Value) (m:OneCell f) (j:d->d->Int) (n:SWO (ltOf j)) (g:Nat) (k:Array Value) (c i l:Nat) (b:Array d) (a:World) (o:∀args a,(callFunc g args).run Tryz.prog a=.ok (.enter g args) a) (p:CmpLays1 Tryz.prog g k f j c i b.size a) (r:Holds f a c i b) (s:c<a.heap.size) (t:b.size<4611686018427387904):
 Calls Tryz.prog 116 #[.slice (some ⟨c,i,none⟩) b.size l,.func (.func g) #[] k] a λe u=>
  e=.returned (.tuple #[])/\∃v w,u=sortWorld f a c i v (pdq (ltOf j) b 0 b.size (Lib.bitLen b.size) true true) w:=Any.slices_SortFunc_eq Tryz.pM f m j n g k c i l b a o p r s t
open Go.RowKit Go.Lib Go.Sort in
theorem Tryz.slices_SortFunc {c:Type} [Inhabited c] (d:c->Value) (m:OneCell d) (i:c->c->Int) (n:SWO (ltOf i)) (g:Nat) (j:Array Value) (b f l:Nat) (a:Array c) (w:World) (o:∀args w,(callFunc g args).run Tryz.prog w=.ok (.enter g args) w) (p:CmpLays1 Tryz.prog g j d i b f a.size w) (r:Holds d w b f a) (s:b<w.heap.size) (t:a.size<4611686018427387904):
 Calls Tryz.prog 116 #[.slice (some ⟨b,f,none⟩) a.size l,.func (.func g) #[] j] w λe w'=>
  e=.returned (.tuple #[])/\∃k u v,PermIn 0 a.size a k/\SortedIn (ltOf i) 0 a.size k/\w'=sortWorld d w b f u k v:=Any.slices_SortFunc Tryz.pM d m i n g j b f l a w o p r s t
