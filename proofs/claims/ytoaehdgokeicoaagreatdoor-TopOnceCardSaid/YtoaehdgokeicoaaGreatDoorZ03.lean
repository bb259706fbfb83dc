/- TopOnce: part 3 of the proof. -/
import Derived.Deep.DeepCutAuto
import Derived.Deep.RegionHeld3
import Derived.Lib.SmallJoins
import Derived.StillTailTactics
import Derived.Test.YtoaehdgokeicoaaGreatDoorZ02
set_option maxRecDepth 100000
set_option maxHeartbeats 30000000
set_option linter.all false
namespace Go.Proofs.YtoaehdgokeicoaaGreatDoor
open K9 Z9 Go.Proofs.Tryz
section
variable{w v u W V U:eI}{n k m i j p b c d g N B K G M:Nat}{x y z X Y:eS}{D E F:Int}{A C H I:fE}{l L J T:fY}{r s t R S:fe}{f:ik}{a:Act}{O P Q:List Oper}{kE:Oper}{kG:Array Oper}{kH:Program}{kJ:kx}{kK:DataW eS}{kM:fS}{kO:mB}{kR:gh}
section
open Go.ChangeShapes Go.WideShapes Go.ChangeAt Go.RowKit Go.Joins
open Go.ChangeMaps (open_string shut_string)
def An{H:Type}(P:Program)(t:ik)(d:DataW H):Prop:=∀n∈d.weights P t,n<=140737488351232
theorem xR{a:Type}{b:List (DataW a)}(h:(DataW.weightsEach kH kO b).all (· <=reachBytes)=true){j:Nat}{c:ik}{d:DataW a}(f:kO[j]? =some c)(g:b[j]? =some d):An kH c d:=by intro i k;have:=xK.1 h _ (DataW.weights_mem_each f g i k);have l:=xL this;unfold reachBytes at l;omega
theorem own:ownKnob prog.godebug=none:=by kernel_rfl
theorem Hy:laidOutB prog=true:=by kernel_rfl
theorem xS{α:Type}{Q:Nat->α->Prop}:∀(b:Nat),(∀a,a<b->∃c,Q a c)->∃f:List α,f.length=b/\∀a c,f[a]? =some c->Q a c
 |0,_=>⟨[],rfl,λa c h=>by simp at h⟩
 |b+1,h=>by
  obtain⟨f,g,i⟩:=xS b (λa j=>h a (by omega));obtain⟨c,k⟩:=h b (by omega);refine⟨f++[c],by simp[g],λa l d=> ?_⟩;by_cases j:a<b
  ·rw[qp (by omega)] at d;exact i a l d
  ·have m:=(jS.1 d).1;have:a=b:=by simp[g] at m;omega
   subst this;rw[qq (by omega),g] at d;simp at d;subst d;exact k
theorem wy{d:Type}{e:ik}:∀(b:List (DataW d)) (a:DataW d),a∈b->∀c∈a.weights kH e,c∈DataW.weightsAll kH e b
 |[],a,h,_,_=>by cases h
 |d0::b,a,h,c,f=>by
  simp only[DataW.weightsAll,gu];rcases fm.1 h with rfl|h
  ·exact .inl f
  ·exact .inr (wy b a h c f)
def T9{α:Type}(w:eI)(A:fE)(c:Nat)(Q:α->fY->Prop)(xs:List α):Prop:=
 ∀(i:Nat) (a:α),xs[i]? =some a->∃b off cs,A=some (eJ b off)/\cs.length=c/\Q a cs/\∀j,j<c->w.cell? (eJ b (off+i*c+j))=cs[j]?
theorem T9.ext{a:Type}{w w':eI}{A:fE}{c:Nat}{b:a->fY->Prop}{xs:List a}(h:T9 w A c b xs)(d:eF w w'):T9 w' A c b xs:=by intro f g i;obtain⟨j,k,l,m,n,o,p⟩:=h f g i;refine⟨j,k,l,m,n,o,λr s=> ?_⟩;have:=p r s;rw[gg (by omega)] at this ⊢;exact d.cell this
def ints(ns:fS):fY:=ns.map (Value.int .i64)
structure iV where
 name:jw
 B3:jw
 vd:Bool
 kind:Int
 SZ:Bool
 sW:Int
 Jm:Bool
 val:Int
 size:Int
def rz:iV:=⟨⟨#[]⟩,⟨#[]⟩,false,0,false,0,false,0,0⟩
def sM(x:Int):Prop:= -9223372036854775808<=x/\x<=9223372036854775807
def iV.eL(s:iV):fY:=[eV s.name,eV s.B3,fz s.vd,eE s.kind,fz s.SZ,eE s.sW,fz s.Jm,eE s.val,eE s.size]
structure iV.Fit(s:iV):Prop where
 name:s.name.size<=140737488351232
 B3:s.B3.size<=140737488351232
 kind:sM s.kind
 sW:sM s.sW
 val:sM s.val
 size:sM s.size
def zD(w:eI)(A:fE)(l:List iV):Prop:=T9 w A 9 (λs cs=>cs=iV.eL s) l
structure Bk where
 A:fE
 c:Nat
 is:fS
def Dq:Bk:=⟨none,0,[]⟩
def Bk.cell(k:Bk):eS:=.slice k.A k.is k.c
structure Bk.In(w:eI)(k:Bk):Prop where
 rd:Rd w k.A (ints k.is)
 vq:∀i∈k.is,sM i
 len:k.is.length*8<=140737488351232
theorem Bk.In.ext{w w':eI}{k:Bk}(h:k.In w)(a:eF w w'):k.In w':=⟨a.rd h.rd,h.vq,h.len⟩
structure Tb where
 BA:fE
 bc:Nat
 bs:List Bk
 WA:fE
 wc:Nat
 ws:fe
 sh:Int
def Tb.eL(t:Tb):fY:=[.slice t.BA t.bs t.bc,.slice t.WA t.ws t.wc,eE t.sh]
structure Tb.In(w:eI)(t:Tb):Prop where
 V4:Rd w t.BA (t.bs.map Bk.cell)
 VA:∀k∈t.bs,k.In w
 Ul:t.bs.length*24<=140737488351232
 Vm:Rd w t.WA (kq t.ws)
 S0:∀y∈t.ws,y<18446744073709551616
 Qo:t.ws.length*8<=140737488351232
 VB:sM t.sh
theorem Tb.In.ext{w w':eI}{b:Tb}(h:b.In w)(a:eF w w'):b.In w':=⟨a.rd h.V4,λc d=>(h.VA c d).ext a,h.Ul,a.rd h.Vm,h.S0,h.Qo,h.VB⟩
end
section
open Go.RowKit Pl
def pT(s:iV):Bool:=s.Jm&&s.sW != 2
def nL(r d:iV)(B3:Bool):Bool:=pT d&&decide (r.name=d.name)&&(if r.B3.size=0 then !d.vd else(decide (r.B3=d.B3)|| !B3))
def vt(l:List iV):Bool:=l.any λs=>s.Jm&&decide (s.B3.size≠0)
def gZ(s:jw):Nat:=(kn 5381 s.data.toList).toNat
def Tb.Mq(t:Tb)(h:Nat):Bool:=kV t.ws.length t.sh&&vm t.sh.toNat t.ws h
def qS(r:iV)(l:List iV)(B3:Bool):fS->Nat->Int×Nat
 |[],n=>(-1,n)
 |i::is,n=>if i<0\/(l.length:Int)<=i then qS r l B3 is n else if nL r (l.getD i.toNat rz) B3 then(i,n+1) else qS r l B3 is (n+1)
def wC(t:Tb)(r:iV)(l:List iV):Int×Nat:=
 if t.bs.length=0\/t.Mq (gZ r.name)=true then(-1,0) else qS r l (vt l) (t.bs.getD (gZ r.name%t.bs.length) Dq).is 0
theorem su(a:jw):(gZ a:Int)=kn 5381 a.data.toList/\gZ a<4294967296:=by have:=Mm 5381 a.data.toList (by omega) (by omega);unfold gZ;omega
end
theorem wD(b:jw):∀(d a:Nat) (c:gh),b.size- a=d->ByteArray.toList.loop b a c=c.reverse++b.data.toList.drop a
 |0,a,c,h=>by
  unfold ByteArray.toList.loop
  rw[fG (by omega),tC (by simp;omega)]
  simp
 |d+1,a,c,h=>by
  unfold ByteArray.toList.loop
  have f:a<b.size:=by omega
  rw[fW f,wD b d (a+1) _ (by omega)]
  have g:a<b.data.toList.length:=by simpa using f
  have i:b.get! a=b.data.toList[a]:=by
   show b.data[a]! =_;rw[Dr b.data a (by simpa using f)];simp
  rw[sN g,i];simp
theorem gQ(a:jw):a.toList=a.data.toList:=by unfold ByteArray.toList;rw[wD a _ 0 [] rfl];simp
theorem Ao(a b:jw):(a.toList==b.toList)=decide (a=b):=by
 rw[gQ,gQ];by_cases h:a=b
 ·subst h;simp
 ·have:a.data.toList≠b.data.toList:=by
   intro e;apply h;cases a;cases b;simp only at e;congr 1
   exact Mr.1 e
  rw[kD h];exact mn.2 this
theorem sx(a:jw):a.toList=[]↔a.size=0:=by
 rw[gQ];constructor
 ·intro h;have:=congrArg List.length h;simpa using this
 ·intro h;exact Ds.1 (by simpa using h)
section
open Go.RowKit Pl
theorem xT(a:iV)(d:eI):Calls prog 232 #[fV a.eL.toArray] d λe k=>e=fH (fz (pT a))/\eF d k:=by
 obtain⟨name,f,g,kind,i,b,l,j,size⟩:=a;simp only[iV.eL];cases l
 ·have c:Hid (pT ⟨name,f,g,kind,i,b,false,j,size⟩=false):=eD (by simp[pT]);go_in;go_wp2;go_ret;exact⟨kj (by rw[c];rfl),eF.alloc _ _⟩
 ·have c:Hid (pT ⟨name,f,g,kind,i,b,true,j,size⟩=(b != 2)):=eD (by simp[pT]);go_in;go_wp2;go_ret;exact⟨kj (by rw[c];rfl),eF.alloc _ _⟩
theorem Jn(a:eI)(b c:kx)(t1 t2:ik):eQ ((a.alloc (eN b t1)).alloc (eN c t2)) a t1 b/\eQ ((a.alloc (eN b t1)).alloc (eN c t2)) (a.heap.size+1) t2 c/\eF a ((a.alloc (eN b t1)).alloc (eN c t2)):=
 ⟨(eQ.new _ _ _).alloc _,by simpa using eQ.new (a.alloc (.cells b t1)) t2 c,(eF.alloc _ _).trans (eF.alloc _ _)⟩
theorem Jo(E d:iV)(z:Bool)(b:eI):Calls prog 282 #[fV E.eL.toArray,fV d.eL.toArray,fz z] b λe S=>e=fH (fz (nL E d z))/\eF b S:=by
 have F:=eD (xT d);obtain⟨H,Q⟩:∃H,pT d=H:=⟨_,rfl⟩;rw[Q] at F;have R:nL E d z=(H&&decide (E.name=d.name)&&(if E.B3.size=0 then !d.vd else(decide (E.B3=d.B3)|| !z))):=by unfold nL;rw[Q]
 clear Q;obtain⟨name,l,j,kind,m,n,o,p,size⟩:=d;obtain⟨c,f,r,s,t,u,v,w,x⟩:=E;simp only[iV.eL] at F R ⊢;have G:=eD R;clear R;cases H
 ·have A:Hid (nL ⟨c,f,r,s,t,u,v,w,x⟩ ⟨name,l,j,kind,m,n,o,p,size⟩ z=false):=eD (by rw[G];simp);go_in;go_wp
  have B:=Jn b #[eV c,eV f,fz r,eE s,fz t,eE u,fz v,eE w,eE x] #[eV name,eV l,fz j,eE kind,fz m,eE n,fz o,eE p,eE size] 118 118;obtain⟨k,i,y⟩:=B;generalize(b.alloc (eN #[eV c,eV f,fz r,eE s,fz t,eE u,fz v,eE w,eE x] 118)).alloc (eN #[eV name,eV l,fz j,eE kind,fz m,eE n,fz o,eE p,eE size] 118)=I at*;refine(F _).mono ?_;rintro e g ⟨rfl,a⟩;have J:g.cell? (eJ b 0)=some (eV c):=a.cell (k.cell 0 rfl);have K:g.cell? (eJ b 1)=some (eV f):=a.cell (k.cell 1 rfl);have L:g.cell? (eJ (b.heap.size+1) 0)=some (eV name):=a.cell (i.cell 0 rfl);have M:g.cell? (eJ (b.heap.size+1) 1)=some (eV l):=a.cell (i.cell 1 rfl);have N:g.cell? (eJ (b.heap.size+1) 2)=some (fz j):=a.cell (i.cell 2 rfl);have C:=eD (y.trans a);clear k i y a;go_wp2;go_ret;exact⟨kj (by rw[A];rfl),C⟩
 by_cases O:c=name
 ·subst O;by_cases D:f.size=0
  ·have A:Hid (nL ⟨c,f,r,s,t,u,v,w,x⟩ ⟨c,l,j,kind,m,n,o,p,size⟩ z= !j):=eD (by rw[G];simp[D]);have T:=(sx _).2 D;clear D;go_in;go_wp21
   have B:=Jn b #[eV c,eV f,fz r,eE s,fz t,eE u,fz v,eE w,eE x] #[eV c,eV l,fz j,eE kind,fz m,eE n,fz o,eE p,eE size] 118 118;obtain⟨k,i,y⟩:=B;generalize(b.alloc (eN #[eV c,eV f,fz r,eE s,fz t,eE u,fz v,eE w,eE x] 118)).alloc (eN #[eV c,eV l,fz j,eE kind,fz m,eE n,fz o,eE p,eE size] 118)=I at*;refine(F _).mono ?_;rintro e g ⟨rfl,a⟩;have J:g.cell? (eJ b 0)=some (eV c):=a.cell (k.cell 0 rfl);have K:g.cell? (eJ b 1)=some (eV f):=a.cell (k.cell 1 rfl);have L:g.cell? (eJ (b.heap.size+1) 0)=some (eV c):=a.cell (i.cell 0 rfl);have M:g.cell? (eJ (b.heap.size+1) 1)=some (eV l):=a.cell (i.cell 1 rfl);have N:g.cell? (eJ (b.heap.size+1) 2)=some (fz j):=a.cell (i.cell 2 rfl);have C:=eD (y.trans a);clear k i y a;go_wp2;go_ret;exact⟨kj (by rw[A];rfl),C⟩
  ·have T:f.toList.isEmpty=false:=by
    cases h:f.toList with
    |nil=>exact absurd ((sx _).1 h) D
    |cons U V=>rfl
   by_cases P:f=l
   ·subst P;have A:Hid (nL ⟨c,f,r,s,t,u,v,w,x⟩ ⟨c,f,j,kind,m,n,o,p,size⟩ z=true):=eD (by rw[G];simp[D]);clear D;go_in;go_wp21
    have B:=Jn b #[eV c,eV f,fz r,eE s,fz t,eE u,fz v,eE w,eE x] #[eV c,eV f,fz j,eE kind,fz m,eE n,fz o,eE p,eE size] 118 118;obtain⟨k,i,y⟩:=B;generalize(b.alloc (eN #[eV c,eV f,fz r,eE s,fz t,eE u,fz v,eE w,eE x] 118)).alloc (eN #[eV c,eV f,fz j,eE kind,fz m,eE n,fz o,eE p,eE size] 118)=I at*;refine(F _).mono ?_;rintro e g ⟨rfl,a⟩;have J:g.cell? (eJ b 0)=some (eV c):=a.cell (k.cell 0 rfl);have K:g.cell? (eJ b 1)=some (eV f):=a.cell (k.cell 1 rfl);have L:g.cell? (eJ (b.heap.size+1) 0)=some (eV c):=a.cell (i.cell 0 rfl);have M:g.cell? (eJ (b.heap.size+1) 1)=some (eV f):=a.cell (i.cell 1 rfl);have N:g.cell? (eJ (b.heap.size+1) 2)=some (fz j):=a.cell (i.cell 2 rfl);have C:=eD (y.trans a);clear k i y a;go_wp2;go_ret;exact⟨kj (by rw[A];rfl),C⟩
   ·have A:Hid (nL ⟨c,f,r,s,t,u,v,w,x⟩ ⟨c,l,j,kind,m,n,o,p,size⟩ z= !z):=eD (by rw[G];simp[D,P]);have W:(f.toList==l.toList)=false:=by rw[Ao];exact kD P
    clear D P;go_in;go_wp21
    have B:=Jn b #[eV c,eV f,fz r,eE s,fz t,eE u,fz v,eE w,eE x] #[eV c,eV l,fz j,eE kind,fz m,eE n,fz o,eE p,eE size] 118 118;obtain⟨k,i,y⟩:=B;generalize(b.alloc (eN #[eV c,eV f,fz r,eE s,fz t,eE u,fz v,eE w,eE x] 118)).alloc (eN #[eV c,eV l,fz j,eE kind,fz m,eE n,fz o,eE p,eE size] 118)=I at*;refine(F _).mono ?_;rintro e g ⟨rfl,a⟩;have J:g.cell? (eJ b 0)=some (eV c):=a.cell (k.cell 0 rfl);have K:g.cell? (eJ b 1)=some (eV f):=a.cell (k.cell 1 rfl);have L:g.cell? (eJ (b.heap.size+1) 0)=some (eV c):=a.cell (i.cell 0 rfl);have M:g.cell? (eJ (b.heap.size+1) 1)=some (eV l):=a.cell (i.cell 1 rfl);have N:g.cell? (eJ (b.heap.size+1) 2)=some (fz j):=a.cell (i.cell 2 rfl);have C:=eD (y.trans a);clear k i y a;go_wp2;go_ret;exact⟨kj (by rw[A];rfl),C⟩
 ·have A:Hid (nL ⟨c,f,r,s,t,u,v,w,x⟩ ⟨name,l,j,kind,m,n,o,p,size⟩ z=false):=eD (by rw[G];simp[O]);have X:(c.toList==name.toList)=false:=by rw[Ao];exact kD O
  clear O;go_in;go_wp
  have B:=Jn b #[eV c,eV f,fz r,eE s,fz t,eE u,fz v,eE w,eE x] #[eV name,eV l,fz j,eE kind,fz m,eE n,fz o,eE p,eE size] 118 118;obtain⟨k,i,y⟩:=B;generalize(b.alloc (eN #[eV c,eV f,fz r,eE s,fz t,eE u,fz v,eE w,eE x] 118)).alloc (eN #[eV name,eV l,fz j,eE kind,fz m,eE n,fz o,eE p,eE size] 118)=I at*;refine(F _).mono ?_;rintro e g ⟨rfl,a⟩;have J:g.cell? (eJ b 0)=some (eV c):=a.cell (k.cell 0 rfl);have K:g.cell? (eJ b 1)=some (eV f):=a.cell (k.cell 1 rfl);have L:g.cell? (eJ (b.heap.size+1) 0)=some (eV name):=a.cell (i.cell 0 rfl);have M:g.cell? (eJ (b.heap.size+1) 1)=some (eV l):=a.cell (i.cell 1 rfl);have N:g.cell? (eJ (b.heap.size+1) 2)=some (fz j):=a.cell (i.cell 2 rfl);have C:=eD (y.trans a);clear k i y a;go_wp2;go_ret;exact⟨kj (by rw[A];rfl),C⟩
theorem zD.at{w:eI}{A:fE}{l:List iV}(h:zD w A l){i:Nat}(f:i<l.length):
 ∃b a,A=some (eJ b a)/\b<w.heap.size/\∀(j:Nat) (v:eS),(iV.eL l[i])[j]? =some v->w.cell? (eJ b (a+i*9+j))=some v:=by
 obtain⟨b,a,k,g,m,rfl,c⟩:=h i _ (gg f);refine⟨b,a,g, ?_,λj v d=> ?_⟩
 ·have:=c 0 (by omega);exact js (v:=eV l[i].name) this
 ·rw[c j (by have:=(jS.1 d).1;simpa[iV.eL] using this)];exact d
def Vn(w:eI)(b o:Nat)(s:iV):Prop:=
 w.cell? (eJ b o)=some (eV s.name)/\w.cell? (eJ b (o+1))=some (eV s.B3)/\w.cell? (eJ b (o+2))=some (fz s.vd)/\w.cell? (eJ b (o+3))=some (eE s.kind)/\
 w.cell? (eJ b (o+4))=some (fz s.SZ)/\w.cell? (eJ b (o+5))=some (eE s.sW)/\w.cell? (eJ b (o+6))=some (fz s.Jm)/\w.cell? (eJ b (o+7))=some (eE s.val)/\w.cell? (eJ b (o+8))=some (eE s.size)
theorem zD.Dt{d:List iV}(h:zD w A d){i:Nat}(f:i<d.length):∃b c,A=some (eJ b c)/\b<w.heap.size/\Vn w b (c+i*9) d[i]:=by obtain⟨b,c,g,j,a⟩:=h.at f;exact⟨b,c,g,j,a 0 _ rfl,a 1 _ rfl,a 2 _ rfl,a 3 _ rfl,a 4 _ rfl,a 5 _ rfl,a 6 _ rfl,a 7 _ rfl,a 8 _ rfl⟩
theorem Vn.ext{w w':eI}{b o:Nat}{s:iV}(h:Vn w b o s)(a:eF w w'):Vn w' b o s:=by obtain⟨c,d,f,g,i,j,k,l,m⟩:=h;exact⟨a.cell c,a.cell d,a.cell f,a.cell g,a.cell i,a.cell j,a.cell k,a.cell l,a.cell m⟩
theorem zD.ext{w w':eI}{A:fE}{l:List iV}(h:zD w A l)(a:eF w w'):zD w' A l:=T9.ext h a
def xU(s:iV):Bool:=s.Jm&&decide (s.B3.size≠0)
theorem Jp(a:List iV){k:Nat}(h:k<a.length):vt (a.take (k+1))=(vt (a.take k)||xU a[k]):=by unfold vt xU;rw[iz h,List.any_append];simp
theorem Jq(a:List iV){k:Nat}(h:vt (a.take k)=true):vt a=true:=by unfold vt at*;obtain⟨b,c,d⟩:=S1.1 h;exact S1.2 ⟨b,qT c,d⟩
theorem zE(m:fE)(r:Nat)(a:List iV)(i:eI)(n:zD i m a)(J:a.length<=140737488351232):
 Calls prog 281 #[.slice m a r] i λe s=>e=fH (fz (vt a))/\eF i s:=by
 have t:=eD n;clear n;go_in;go_wp
 go_loopw [7] (λj wr=>∃k:Nat,k<=a.length/\j=eE k/\vt (a.take k)=false/\eF i wr) (λj _=>a.length- (intOf j).toNat)
 case atStart=>exact⟨0,eX _,rfl,rfl,eF.refl _⟩
 case round=>
  obtain⟨k,K,rfl,b,d⟩:=hrel;by_cases o:k<a.length
  ·obtain⟨u,L,rfl,M,p⟩:=t.Dt o;have c:=Jp a o;rw[b,SX] at c;have v:=eD (Jq a (k:=k+1));generalize a[k]=w at*;obtain⟨x,y,z,A,B,C,D,E,F⟩:=p.ext d;obtain⟨name,l,N,kind,O,P,G,Q,size⟩:=w;simp only at x y z A B C D E F;have f:=eD d;clear d b p;cases G
   ·have g:Hid (vt (a.take (k+1))=false):=eD (by rw[c];simp[xU]);clear c;go_wp2;go_roundw
    case rel=>exact⟨k+1,by omega,by go_num,g,f.trans oP⟩
    case measure=>simp[intOf];omega
   ·by_cases b:l.size=0
    ·have H:=(sx _).2 b;have g:Hid (vt (a.take (k+1))=false):=eD (by rw[c];simp[xU,b]);clear c b;go_wp2;go_roundw
     case rel=>exact⟨k+1,by omega,by go_num,g,f.trans oP⟩
     case measure=>simp[intOf];omega
    ·have H:l.toList.isEmpty=false:=by
      cases h:l.toList with
      |nil=>exact absurd ((sx _).1 h) b
      |cons R u=>rfl
     have g:=eD (v (by rw[c];simp[xU,b]));clear c b;go_wp2;go_ret;exact⟨kj (by rw[g];rfl),f.trans oP⟩
  ·rw[show a.take k=a from mZ (by omega)] at b;have I:=eD b;have f:=eD d;clear b d;go_wp2;go_ret;exact⟨kj (by rw[I];rfl),f⟩
theorem Ap(a:Int):wrap64 a=IntKind.i64.wrap a:=by rw[S2];unfold wrap64;omega
theorem F3(h a:Nat)(b:h<4294967296):wrap64 ((h:Int)%(a:Int))=((h%a:Nat):Int):=by have e:(h:Int)%(a:Int)=((h%a:Nat):Int):=rfl;rw[e,Ap];exact IntWalk.i64_in _ (by have:=Nat.mod_le h a;omega)
theorem tD(f:fE)(a g:Nat)(i:eS)(j:eS)(b:jw)(c:eI)(m:1<=a)(n:a<4294967296)(k:b.size<=maxLen):
 Calls prog 160 #[fV #[.slice f a g,i,j],eV b] c λe d=>e=fH (eE (gZ b%a:Nat))/\eF c d:=by
 have o:(kn 5381 b.data.toList).tmod (a:Int)=((gZ b%a:Nat):Int):=by rw[<-(su b).1,Qn (by omega)];rfl
 have p:IntKind.u32.wrap (a:Int)=(a:Int):=by rw[IntKind.wrap_u32];omega
 have l:Hid (wrap64 ((gZ b:Int)%(a:Int))=((gZ b%a:Nat):Int)):=eD (F3 _ _ (su b).2);have r:IntKind.u32.wrap ((gZ b%a:Nat):Int)=((gZ b%a:Nat):Int):=by rw[IntKind.wrap_u32];have:=pS (gZ b) (show 0<a by omega);omega
 go_in;go_wp
 go_quiet ((go_at_call 233;exact Calls.quiet_of_same ((ui b _ k).mono λe d h=>⟨h.1,h.2.symm⟩)))
 go_wp2;go_ret;exact⟨kj (by show Value.int .i64 (wrap64 ((gZ b:Int)%(a:Int)))=_;rw[l]),(eF.alloc _ _).trans (eF.drewN _ _)⟩
end
section
open Go.ChangeShapes Go.WideShapes Go.ChangeAt Go.RowKit Go.Joins Pl
structure Qp where
 A:fE
 n:Nat
 c:Nat
structure Im where
 c0:jw
 c1:Int
 c2:Qp
 c3:Qp
 c4:Qp
 SA:fE
 sc:Nat
 l:List iV
 t:Tb
 c9:Qp
 rh:Qp
 pU:Qp
 pV:Qp
 C9:Qp
 T':Int
def Im.eL(m:Im):fY:=[eV m.c0,eE m.c1,.slice m.c2.A m.c2.n m.c2.c,.slice m.c3.A m.c3.n m.c3.c,.slice m.c4.A m.c4.n m.c4.c,.slice m.SA m.l m.sc,.slice m.t.BA m.t.bs m.t.bc,.slice m.t.WA m.t.ws m.t.wc,eE m.t.sh,.slice m.c9.A m.c9.n m.c9.c,.slice m.rh.A m.rh.n m.rh.c,.slice m.pU.A m.pU.n m.pU.c,.slice m.pV.A m.pV.n m.pV.c,.slice m.C9.A m.C9.n m.C9.c,eE m.T']
def Vo:Qp:=⟨none,0,0⟩
end
section
open Go.RowKit
theorem uk{P:Program}(a:eI)(g:Nat)(b i e:ik)(j:TypeInfo)(size:Nat)(d:P.underlying b=some (.slice e))(f:P.info? e=some j)(c:eS)(k:Nat)(l:fY)(m:a.ownsRow g e size c k l)(n:Nat):(Builtin.append_ #[b,b] i #[c,.slice none 0 n]).run P a=.ok c a:=by
 obtain⟨_,⟨rfl,rfl⟩|⟨p,r,s,rfl,_,_,o,_⟩⟩:=m
 ·simp[Builtin.append_,Aq d,sizeOf,typeInfo,f,Builtin.lenOf,Builtin.firstCells]
 ·simp[Builtin.append_,Aq d,sizeOf,typeInfo,f,Builtin.lenOf,Builtin.firstCells,o,storeCells]
theorem Du{P:Program}(a:eI)(j:Nat)(k n e:ik)(d:TypeInfo)(o:eS)(bytes:Nat)(s:P.underlying k=some (.slice e))(t:P.info? e=some d)(B:d.zero=some o)(C:d.size=1)(D:d.bytes=bytes)(E:o.cells.size=1)(b:eS)(f:Nat)(l:fY)(p:a.ownsRow j e 1 b f l)(u:fE)(r:Nat)(g:fY)(m:Nat)(N:g.length=m)(F:Rd a u g)(G:∀v∈g,v.oneCell'=true)(H:f+m<=maxLen)(I:(f+m)*bytes<=140737488355328)(J:j<=a.heap.size):
 ∃c i,(Builtin.append_ #[k,k] n #[b,.slice u m r]).run P a=.ok c i/\i.ownsRow j e 1 c (f+m) (l++g)/\a.grownBy i b.ownBlock/\(c.ownBlock=b.ownBlock\/c.ownBlock=some a.heap.size):=by
 subst N;by_cases K:g=[]
 ·subst K;cases u with
  |none=>exact⟨b,a,uk a j k n e d 1 s t b f l p r,by simpa using p,World.grownBy.refl a _,.inl rfl⟩
  |some O=>obtain⟨c,i,w,x,y,_,z⟩:=run_append_own_at (P:=P) a j k n e d o 1 bytes s t B C D E (by omega) b f l p O 0 r [] (by simp) (λL v A=>by simp at A) G H I J;exact⟨c,i,w,x,y,z⟩
 ·have Q:=pi.2 K;obtain⟨R,S,rfl,_⟩:=F 0 Q;obtain⟨c,i,w,x,y,_,z⟩:=run_append_own_at (P:=P) a j k n e d o 1 bytes s t B C D E (by omega) b f l p (eJ R S) g r g (by omega) (λL v A=>by obtain⟨T,rfl⟩:=jS.1 A;obtain⟨V,W,M,U⟩:=F L T;simp only[fd,ny,gP] at M;obtain⟨rfl,rfl⟩:=M;rw[P4];exact U) G H I J
  exact⟨c,i,w,x,y,z⟩
theorem xV{P:Program}{p:Act->eI->Prop}{u:Exit->Act->eI->Prop}(r s:Operand)(k:ik)(v:kE.op=.call {callee:=.builtin .append,args:=#[r,s],argTypes:=#[k,k]})(l:Nat)(e:ik)(d:TypeInfo)(m:eS)(bytes:Nat)(x:P.underlying k=some (.slice e))(y:P.info? e=some d)(z:d.zero=some m)(A:d.size=1)(B:d.bytes=bytes)(C:m.cells.size=1)(f:eS)(g:Nat)(n:fY)(D:a.eval r=f)(E:w.ownsRow l e 1 f g n)(o:fE)(t:Nat)(i:fY)(b:Nat)(F:a.eval s=.slice o b t)(G:i.length=b)(H:Rd w o i)(I:∀J∈i,J.oneCell'=true)(K:g+b<=maxLen)(L:(g+b)*bytes<=140737488355328)(M:l<=w.heap.size)(h:∀c j,j.ownsRow l e 1 c (g+b) (n++i)->w.grownBy j f.ownBlock->(c.ownBlock=f.ownBlock\/c.ownBlock=some w.heap.size)->p (a.put kE.dst c) j):kE.wp P a w p u:=by obtain⟨c,j,N,O,Q,R⟩:=Du (P:=P) w l k kE.type e d m bytes x y z A B C f g n E o t i b G H I K L M;unfold Oper.wp execOp;simp only[v,resolve,invoke,builtin,nU,rt,sU,Hz,hU,jt,D,F,N];exact h c j O Q R
theorem mF{rest:List Oper}{r:Exit->Act->eI->Prop}(t:kE.guard=none)(l m:Operand)(j:ik)(u:kE.op=.call {callee:=.builtin .append,args:=#[l,m],argTypes:=#[j,j]})(k:Nat)(e:ik)(d:TypeInfo)(n:eS)(bytes:Nat)(x:kH.underlying j=some (.slice e))(y:kH.info? e=some d)(z:d.zero=some n)(A:d.size=1)(B:d.bytes=bytes)(C:n.cells.size=1)(v:eS)(f:Nat)(o:fY)(D:a.eval l=v)(E:w.ownsRow k e 1 v f o)(p:fE)(s:Nat)(g:fY)(b:Nat)(F:a.eval m=.slice p b s)(G:g.length=b)(H:Rd w p g)(I:∀J∈g,J.oneCell'=true)(K:f+b<=maxLen)(L:(f+b)*bytes<=140737488355328)(M:k<=w.heap.size)(h:∀c i,i.ownsRow k e 1 c (f+b) (o++g)->w.grownBy i v.ownBlock->(c.ownBlock=v.ownBlock\/c.ownBlock=some w.heap.size)->wpList kH kG r rest (a.put kE.dst c) i):wpList kH kG r (kE::rest) a w:=
 ul t λ_ N=>xV l m j u k e d n bytes x y z A B C v f o D E p s g b F G H I K L M λc i O P Q=>N _ _ (h c i O P Q)
structure fi(S:Nat->Prop)(w w':eI):Prop where
 os:w'.os=w.os
 tape:w'.tape=w.tape
 output:w'.output=w.output
 size:w.heap.size<=w'.heap.size
 block:∀k,k<w.heap.size->¬S k->w'.heap[k]? =w.heap[k]?
theorem fi.refl(S:Nat->Prop)(w:eI):fi S w w:=⟨rfl,rfl,rfl,fJ _,λ_ _ _=>rfl⟩
theorem fi.trans{S S':Nat->Prop}{a b c:eI}(h:fi S a b)(k:fi S' b c)(j:∀i,S' i->S i\/a.heap.size<=i):fi S a c:=
 ⟨k.os.trans h.os,k.tape.trans h.tape,k.output.trans h.output,eY h.size k.size,λi d f=>by rw[k.block i (nX d h.size) (λl=>by rcases j i l with g|g;exact f g;omega)];exact h.block i d f⟩
theorem fi.fg{S:Nat->Prop}{a b:eI}(h:eF a b):fi S a b:=⟨h.below.os,h.below.tape,h.below.output,h.size,λc d _=>h.below.block c d⟩
theorem fi.ext{S:Nat->Prop}{a b:eI}(h:fi S a b)(c:eF w a)(g:∀k,S k->w.heap.size<=k:=by intro k i;simp only[fd] at i;omega):eF w b:=
 eF.of ⟨h.os.trans c.below.os,h.tape.trans c.below.tape,h.output.trans c.below.output,eY c.size h.size,λd f=>by rw[h.block d (nX f c.size) (λj=>by have:=g d j;omega)];exact c.below.block d f⟩
theorem fi.eH{S:Nat->Prop}{w:eI}(h:fi S w v){g:Nat}{a:ik}{b:kx}(c:eQ w g a b)(d:¬S g:=by simp only[fd];omega):eQ v g a b:=(h.block g c.lt d).trans c
theorem fi.cell{S:Nat->Prop}{w:eI}(h:fi S w u){b c:Nat}{v:eS}(d:w.cell? (eJ b c)=some v)(f:¬S b):u.cell? (eJ b c)=some v:=
 (Ms (w:=w) (a:=⟨b,c,none⟩) (h.block b (Hv w ⟨b,c,none⟩ d) f)).trans d
theorem fi.rd{S:Nat->Prop}{w:eI}(h:fi S w v){A:fE}{xs:fY}(d:Rd w A xs)(f:∀b g,A=some (eJ b g)->¬S b):Rd v A xs:=by intro i j;obtain⟨b,a,c,k⟩:=d i j;exact⟨b,a,c,h.cell k (f b a c)⟩
theorem fi.VC{d:Nat->Prop}(h:fi d w v){b:fE}{c:fY}(i:Rd w b c)(j:∀a k,b=some (eJ a k)->0<c.length->¬d a):Rd v b c:=by intro l m;obtain⟨a,f,g,n⟩:=i l m;exact⟨a,f,g,h.cell n (j a f g (by omega))⟩
theorem fi.own{S:Nat->Prop}{w w':eI}(h:fi S w w'){base:Nat}{e:ik}{size n:Nat}{v:eS}{xs:fY}(b:w.ownsRow base e size v n xs)(d:∀k,v.ownBlock=some k->¬S k):w'.ownsRow base e size v n xs:=by
 refine⟨b.1, ?_⟩;rcases b.2 with f|⟨a,g,i,rfl,j,c,rest⟩
 ·exact .inl f
 ·exact .inr ⟨a,g,i,rfl,j,(h.block a (LV.1 c).1 (d a rfl)).trans c,rest⟩
theorem fi.grown{w w':eI}{row:Option Nat}(a:w.grownBy w' row):fi (λk=>some k=row) w w':=⟨a.os,a.tape,a.output,a.size,a.block⟩
theorem fi.set(w:eI)(g i:Nat)(u:eS):fi (λk=>k=g) w (w.setCell (eJ g i) u):=⟨rfl,rfl,rfl,by simp,λk _ a=>Dg _ _ _ _ a⟩
theorem fi.mono{S S':Nat->Prop}{w w':eI}(h:fi S w w')(a:∀k,S k->S' k):fi S' w w':=⟨h.os,h.tape,h.output,h.size,λk b c=>h.block k b (λd=>c (a k d))⟩
def As(A:fE)(k:Nat):Prop:=∃o,A=some (eJ k o)
theorem um(h:As none n):False:=by obtain⟨_,h⟩:=h;cases h
theorem xW(h:As (some (eJ n k)) m):m=n:=by obtain⟨_,h⟩:=h;simp only[fd,ny] at h;exact h.1.symm
theorem eR{w:eI}{e:ik}{size n:Nat}{v:eS}{xs:fY}(h:w.ownsRow k e size v n xs):∃A c,v=.slice A n c:=by
 rcases h.2 with⟨rfl,rfl⟩|⟨a,b,d,rfl,_⟩
 ·exact⟨none,0,rfl⟩
 ·exact⟨_,_,rfl⟩
theorem ou{P:Program}{r:Act->eI->Prop}{t:Exit->Act->eI->Prop}{u:Prop}(x:kE.guard=none)(k l:Operand)(f:ik)(y:kE.op=.call {callee:=.builtin .append,args:=#[k,l],argTypes:=#[f,f]})(g:Nat)(e:ik)(i:TypeInfo)(m:eS)(bytes:Nat)(z:P.underlying f=some (.slice e))(A:P.info? e=some i)(B:i.zero=some m)(C:i.size=1)(D:i.bytes=bytes)(E:m.cells.size=1)(v:eS)(c:Nat)(n:fY)(F:a.eval k=v)(G:w.ownsRow g e 1 v c n)(o:fE)(s:Nat)(d:fY)(b:Nat)(H:a.eval l=.slice o b s)(I:d.length=b)(J:Rd w o d)(K:∀L∈d,L.oneCell'=true)(M:c+b<=maxLen)(N:(c+b)*bytes<=140737488355328)(O:g<=w.heap.size)(h:∀j p,p.ownsRow g e 1 j (c+b) (n++d)->w.grownBy p v.ownBlock->(j.ownBlock=v.ownBlock\/j.ownBlock=some w.heap.size)->r (a.put kE.dst j) p):
 if Region.wanted kE (yielded kG a.tmps)=true then Oper.wp P kE a w r t else u:=by
 have Q:Region.wanted kE (yielded kG a.tmps)=true:=by simp[Region.wanted,x]
 rw[fW Q];exact xV k l f y g e i m bytes z A B C D E v c n F G o s d b H I J K M N O h
theorem kQ{b:ik}{v:eS}(h:w.ownsRow n f m v j l)(c:w.ownsRow k b i x p L)(d:f≠b):v.ownBlock=none\/v.ownBlock≠x.ownBlock:=by
 rcases h.2 with⟨rfl,_⟩|⟨r,s,t,rfl,_,g,_⟩
 ·left;rfl
 ·right
  rcases c.2 with⟨rfl,_⟩|⟨u,y,z,rfl,_,a,_⟩
  ·simp[Value.ownBlock]
  ·simp only[Value.ownBlock,nY,fd];rintro rfl;rw[g] at a;injection a with a
   injection a with _ o
   exact d o
theorem Qq{e:ik}(h:w.ownsRow n e 1 (.slice A k m) k l){c:Nat}(b:As A c):n<=c/\c<w.heap.size:=by
 rcases h.2 with⟨a,_⟩|⟨g,i,j,a,d,f,_⟩
 ·simp only[ml] at a;rw[a.1] at b;exact absurd b um
 ·simp only[ml] at a;rw[a.1] at b;rw[xW b];exact⟨d,(LV.1 f).1⟩
end
section
open Go.ChangeShapes Go.WideShapes Go.ChangeAt Go.RowKit Go.Joins
open Go.ChangeMaps (open_string shut_string)
def jl(bs:gh):fY:=bs.map λb:UInt8=>Value.int .u8 (b.toNat:Int)
def strs(ss:List jw):fY:=ss.map Value.string
end
section
open Go.RowKit Pl
def ftp(p:Nat)(v:eS)(k:Nat):Prop:=k=p\/v.ownBlock=some k
structure vu(w:eI)(p:Nat)(st:WS)(v:eS):Prop where
 eH:eQ w p 352 #[eE st.1,v]
 own:w.ownsRow 0 5 1 v st.2.length (jl st.2)
theorem vu.mb{p:Nat}{st:WS}{v:eS}(h:vu w p st v):∃A c,v=.slice A st.2 c:=by
 rcases h.own.2 with⟨rfl,a⟩|⟨b,d,f,rfl,_⟩
 ·exact⟨_,_,by rw[a]⟩
 ·exact⟨_,_,rfl⟩
theorem vu.ext{w w':eI}{p:Nat}{st:WS}{v:eS}(h:vu w p st v)(a:eF w w'):vu w' p st v:=⟨a.eH h.eH,a.own h.own⟩
theorem vu.ne{p:Nat}{st:WS}{v:eS}(h:vu w p st v):v.ownBlock≠some p:=by
 rcases h.own.2 with⟨rfl,_⟩|⟨c,d,f,rfl,_,a,_⟩
 ·simp[Value.ownBlock]
 ·simp only[Value.ownBlock,nY,fd];rintro rfl;have:=h.eH;unfold eQ at this;rw[a] at this;injection this with this
  injection this with _ b
  exact absurd b (by decide)
theorem vu.lt{w:eI}{p:Nat}{st:WS}{v:eS}(h:vu w p st v):∀k,ftp p v k->k<w.heap.size:=by
 rintro k (rfl|a)
 ·exact h.eH.lt
 ·exact(h.own.lt k a).2
structure wE(p:Nat)(w:eI)(v:eS)(w':eI)(st':WS)(v':eS):Prop where
 st:vu w' p st' v'
 m9:∀k,v'.ownBlock=some k->v.ownBlock=some k\/w.heap.size<=k
 lS:fi (ftp p v) w w'
theorem wE.refl{p:Nat}{w:eI}{v:eS}{st:WS}(h:vu w p st v):wE p w v w st v:=⟨h,λ_ h=>.inl h,fi.refl _ _⟩
theorem wE.trans{p:Nat}{a b c:eI}{s1 i:WS}(h:wE p a x b s1 y)(k:wE p b y c i z):wE p a x c i z:=by
 refine⟨k.st,λg f=> ?_,h.lS.trans k.lS (λg f=> ?_)⟩
 ·rcases k.m9 g f with d|d
  ·exact h.m9 g d
  ·exact .inr (eY h.lS.size d)
 ·rcases f with rfl|f
  ·exact .inl (.inl rfl)
  ·rcases h.m9 g f with d|d
   ·exact .inl (.inr d)
   ·exact .inr d
theorem wE.ext{p:Nat}{a b c:eI}{s1:WS}(h:wE p a x b s1 y)(d:eF b c):wE p a x c s1 y:=
 h.trans ⟨h.st.ext d,λ_ h=>.inl h,fi.fg d⟩
theorem ju(a:gh):(jl a).length=a.length:=by simp[jl]
theorem tF(a b:gh):jl (a++b)=jl a++jl b:=by simp[jl]
theorem pj(b:gh):∀a∈jl b,a.oneCell'=true:=by intro a c;obtain⟨_,_,rfl⟩:=fy.1 c;rfl
theorem vu.app{X:gh}(h:vu w n (D,kR) x)(c:eF w v)(f:Nat)(l:f=kR.length+X.length)(m:u.ownsRow 0 5 1 y f (jl kR++jl X))(g:v.grownBy u x.ownBlock)(b:y.ownBlock=x.ownBlock\/y.ownBlock=some v.heap.size):
 wE n w x (u.setCell (eJ n 1) y) (D,kR++X) y:=by
 subst l;have j:eQ u n 352 #[eE D,x]:=(c.eH h.eH).grown g (λe=>h.ne e.symm);refine⟨⟨j.set 1 y, ?_⟩,λk a=> ?_, ?_⟩
 ·have:=il m j (by decide) (i:=1) y;simpa[tF] using this
 ·rcases b with b|b
  ·exact .inl (b▸a)
  ·rw[b] at a;injection a with a
   subst a;exact .inr c.size
 ·refine(fi.fg c).trans (((fi.grown g).mono (S':=ftp n x) (λk a=>.inr a.symm)).trans ((fi.set u n 1 y).mono (S':=ftp n x) (λk a=>.inl a)) (λi d=>.inl d)) (λi d=>.inl d)
theorem vu.field{b:WS}{v:eS}(h:vu w n b v)(c:eF w u)(d:u.grownBy W v.ownBlock):W.cell? (eJ n 1)=some v/\W.frozen? (eJ n 1)=false:=by have a:=(c.eH h.eH).grown d (λe=>h.ne e.symm);exact⟨a.cell 1 rfl,a.frozen 1⟩
theorem Rd.one(a:eI)(u:eS)(b:ik):Rd (a.alloc (eN #[u] b)).drew (some (eJ a 0)) [u]:=by
 intro c d;have:c=0:=by simpa using d
 subst this;exact⟨a,0,rfl,Df a #[u] b 0 rfl⟩
theorem uo:(prog.info? 5).map (λa=>(a.zero,a.size,a.bytes))=some (some (.int .u8 0),1,1):=by kernel_rfl
end
section
open Go.RowKit
def jT(w:eI)(L:mB)(k:Nat):Prop:=∃cs t fr,w.heap[k]? =some (.cells cs t fr)/\t∈L
section
def VD(B:Nat)(L:mB)(M:fe)(w:eI)(b:Nat):Prop:=B<=b/\(jT w L b\/b∈M)
def CH(B:Nat)(L:mB)(M:fe)(w w':eI):Prop:=fi (VD B L M w) w w'
section
variable {B:Nat} {L L':mB} {M M':fe}
theorem CH.refl(B:Nat)(L:mB)(M:fe)(w:eI):CH B L M w w:=fi.refl _ _
theorem CH.fg{a b:eI}(h:eF a b):CH B L M a b:=fi.fg h
theorem CH.size{w w':eI}(h:CH B L M w w'):w.heap.size<=w'.heap.size:=fi.size h
theorem CH.ty{a b:eI}(h:CH B L M a b){i:Nat}(f:i<a.heap.size)(g:jT b L i):jT a L i\/i∈M:=by
 by_cases c:VD B L M a i
 ·exact c.2
 ·obtain⟨j,k,l,d,m⟩:=g;rw[h.block i f c] at d;exact .inl ⟨j,k,l,d,m⟩
theorem CH.trans{a b c:eI}(h:CH B L M a b)(k:CH B L M' b c)(j:∀i∈M',i∈M\/a.heap.size<=i):CH B L M a c:=by
 refine fi.trans h k λi d=> ?_;rcases m0 i a with f|f
 ·obtain⟨g,d⟩:=d;rcases d with d|d
  ·exact .inl ⟨g,h.ty f d⟩
  ·exact(j i d).imp (λh=>⟨g,.inr h⟩) id
 ·exact .inr f
theorem CH.fk{a b c:eI}(h:CH B L M a b)(k:CH B L [] b c):CH B L M a c:=h.trans k (by simp)
theorem CH.ext{a b c:eI}(h:CH B L M a b)(k:eF b c):CH B L M a c:=h.trans (M':=[]) (CH.fg k) (by simp)
theorem CH.mono{a b:eI}(h:CH B L M a b)(d:∀t∈L,t∈L')(f:∀i∈M,i∈M'):CH B L' M' a b:=
 fi.mono h λg c=>⟨c.1,c.2.imp (λ⟨j,t,k,l,m⟩=>⟨j,t,k,l,d t m⟩) (f g)⟩
theorem CH.eH{w:eI}(h:CH B L M w v){g:Nat}{b:ik}{d:kx}(c:eQ w g b d)(f:b∉L:=by decide)(i:g∉M:=by simp):eQ v g b d:=
 fi.eH h c λj=>j.2.elim (λ⟨m,t2,n,a,k⟩=>by
  unfold eQ at c;rw[c] at a;injection a with a
  injection a with _ l
  exact f (l▸k)) i
theorem CH.own{w w':eI}(h:CH B L M w w'){base:Nat}{e:ik}{size n:Nat}{v:eS}{xs:fY}(d:w.ownsRow base e size v n xs)(f:e∉L:=by decide)(g:∀k,v.ownBlock=some k->k∉M:=by simp):w'.ownsRow base e size v n xs:=by
 refine fi.own h d λk a c=>c.2.elim (λc=> ?_) (g k a);rcases d.2 with⟨rfl,_⟩|⟨m,o,p,rfl,_,i,_⟩
 ·cases a
 ·obtain⟨r,t2,s,b,j⟩:=c;simp only[Value.ownBlock,fd] at a;subst a;rw[i] at b;injection b with b
  injection b with _ l
  exact f (l▸j)
theorem CH.map{a:Type}{P:Program}{k:ik}{R:eS->Option (DataW a×List MemPlace)}{b n:Nat}{D:DataW a}{w w':eI}(h:CH B L M w w')(c:w.ownsMap P k R b n D)(g:b∉M):w'.ownsMap P k R b n D:=by have i:=c.lt;obtain⟨j,l,d,m,o,p⟩:=c;refine⟨j,l,(h.block b i (λr=>r.2.elim (λ⟨s,t,u,f,_⟩=> ?_) g)).trans d,m,o,p⟩;rw[d] at f;cases f
theorem CH.F5(c:w.grownBy v x.ownBlock)(d:∀a,x.ownBlock=some a->B<=a)(f:∀a,x.ownBlock=some a->a∈M):CH B L M w v:=
 fi.mono (fi.grown c) λa b=>⟨d a b.symm,.inr (f a b.symm)⟩
theorem CH.grown{w w':eI}{v:eS}(c:w.grownBy w' v.ownBlock){e:ik}{size n:Nat}{xs:fY}(b:w.ownsRow B e size v n xs)(d:e∈L):CH B L M w w':=
 fi.mono (fi.grown c) λf a=>⟨(b.lt f a.symm).1,by
  rcases b.2 with⟨rfl,_⟩|⟨j,k,g,rfl,_,i,_⟩
  ·cases a
  ·simp only[Value.ownBlock,fd] at a;subst a;exact .inl ⟨g,e,_,i,d⟩⟩
theorem CH.set{w:eI}{g:Nat}(a:eQ w g f kJ)(b:B<=g)(c:f∈L)(i:Nat)(u:eS):CH B L M w (w.setCell (eJ g i) u):=
 fi.mono (fi.set w g i u) λj d=>by subst d;exact⟨b,.inl ⟨kJ,f,_,a,c⟩⟩
theorem CH.pD{e:ik}{size n c g:Nat}(a:w.ownsRow B e size (fN g n c) n l)(b:e∈L)(i:Nat)(u:eS):CH B L M w (w.setCell (eJ g i) u):=by
 refine fi.mono (fi.set w g i u) λm d=> ?_;subst d;rcases a.2 with⟨h,_⟩|⟨o,p,f,h,j,k,_⟩
 ·cases h
 ·simp only[ml,fd,ny,gP,ky] at h;obtain⟨rfl,rfl⟩:=h;exact⟨j,.inl ⟨f,e,_,k,b⟩⟩
theorem CH.uq{w:eI}{g i:Nat}{u:eS}(a:B<=g)(b:g∈M):CH B L M w (w.setCell (eJ g i) u):=fi.mono (fi.set w g i u) λd c=>by subst c;exact⟨a,.inr b⟩
theorem CH.lP{w:eI}(h:CH B L M w u)(a:eF v w)(b:v.heap.size<=B):eF v u:=
 fi.ext h a λd c=>eY b c.1
end
end
section
def fO{α:Type}(f:α->fY)(xs:List α):fY:=xs.flatMap f
section
variable {α:Type} {f:α->fY} {k:Nat}
theorem Aw:fO f []=[]:=rfl
theorem lq(a:α)(b:List α):fO f (a::b)=f a++fO f b:=rfl
theorem hZ(a b:List α):fO f (a++b)=fO f a++fO f b:=by simp[fO]
theorem kU(b:∀c,(f c).length=k):∀a:List α,(fO f a).length=a.length*k
 |[]=>by simp[fO]
 |c::a=>by rw[lq,fT,b,kU b a,iw,lI];omega
theorem iI(g:∀x,(f x).length=k):∀(c:List α) (b a:Nat) (d:b<c.length),a<k->(fO f c)[b*k+a]? =(f c[b])[a]?
 |[],b,a,d,_=>by simp at d
 |x::c,0,a,d,i=>by
  rw[lq,qp (by rw[g];omega),Md,lH];rfl
 |x::c,b+1,a,d,i=>by rw[lq,qq (by rw[g,lI];omega),g,show(b+1)*k+a- k=b*k+a by rw[lI];omega];exact iI g c b a (by simpa using d) i
theorem qr(b:∀c,(f c).length=k):∀(xs:List α) (a:Nat),(fO f xs).drop (a*k)=fO f (xs.drop a)
 |xs,0=>by simp
 |[],a+1=>by simp[fO]
 |c::xs,a+1=>by rw[lq,List.drop_append,tC (by rw[b,lI];omega),b,show(a+1)*k- k=a*k by rw[lI];omega,j6,qr b xs a];rfl
theorem qt(b:∀c,(f c).length=k):∀(xs:List α) (a:Nat),(fO f xs).take (a*k)=fO f (xs.take a)
 |xs,0=>by simp[fO]
 |[],a+1=>by simp[fO]
 |c::xs,a+1=>by rw[lq,Mu,mZ (by rw[b,lI];omega),b,show(a+1)*k- k=a*k by rw[lI];omega,qt b xs a];rfl
theorem m'(d:∀v,(f v).length=k)(g:List α)(b i:Nat)(y:b<g.length)(z:i<k)(o:α)(p:eS)(w:f o=(f g[b]).set i p):(fO f g).set (b*k+i) p=fO f (g.set b o):=by
 apply Dv;intro c;have r:=kU d g;by_cases s:c<g.length*k
 ·have t:0<k:=by omega
  have l:=(Nat.div_lt_iff_lt_mul t).2 s;have j:c%k<k:=pS _ t;have x:c=c/k*k+c%k:=by rw[Nat.mul_comm];exact(Nat.div_add_mod c k).symm
  generalize c/k=a at*;generalize c%k=m at*;subst x;rw[iI d _ a m (by simpa using l) j];by_cases n:b=a
  ·subst n;rw[Ax,w];by_cases u:i=m
   ·subst u;rw[xX (by rw[r];exact s),xX (by rw[d];exact j)]
   ·rw[ur (by omega),ur u,iI d _ _ _ l j]
  ·rw[xY n,ur (λe=>n (by
    have A:b*k+i<(b+1)*k:=by rw[lI];omega
    have B:a*k+m<(a+1)*k:=by rw[lI];omega
    have C:b<a+1:=Sb (a:=k) (by omega);have D:a<b+1:=Sb (a:=k) (by omega);omega)),iI d _ _ _ l j]
 ·rw[tB (by rw[nZ,r];omega),tB (by rw[kU d,nZ];omega)]
theorem Ay(c:∀b,∀a∈f b,a.oneCell'=true)(d:List α):∀a∈fO f d,a.oneCell'=true:=by intro a g;obtain⟨b,_,i⟩:=rA.1 g;exact c b a i
theorem us{e:ik}{a:List α}(c:∀d,(f d).length=k)(h:w.ownsRow n e k (fN m p b) p (fO f a))(s:a.length=p){i:Nat}(g:i<a.length){j:Nat}(l:j<k){v:eS}(o:(f a[i])[j]? =some v):
 w.cell? (eJ m (i*k+j))=some v:=by
 have r:i*k+j<p*k:=by have:(i+1)*k<=p*k:=qU _ (by omega);rw[lI] at this;omega
 rw[h.cellAt _ r,iI c _ _ _ g l,o]
theorem ut{A:fE}{xs:List α}(d:∀o,(f o).length=k)(h:Rd w A (fO f xs)){i:Nat}(p:i<xs.length)(r:0<k):∃b c,A=some (eJ b c)/\b<w.heap.size/\∀a v,(f xs[i])[a]? =some v->w.cell? (eJ b (c+(i*k+a)))=some v:=by
 have l:∀a,a<k->i*k+a<(fO f xs).length:=λa g=>by rw[kU d];have:(i+1)*k<=xs.length*k:=qU _ (by omega);rw[lI] at this;omega
 obtain⟨b,c,m,s⟩:=h (i*k+0) (l 0 r);refine⟨b,c,m,js s,λa v n=> ?_⟩;have g:a<k:=by rw[<-d xs[i]];exact(jS.1 n).1
 obtain⟨u,x,j,t⟩:=h (i*k+a) (l a g);rw[m] at j;simp only[fd,ny,gP] at j;obtain⟨rfl,rfl⟩:=j;rw[t,<-gg,iI d _ _ _ p g,n]
end
theorem mo{e:ik}{size:Nat}(h:w.ownsRow n e size (fN j m i) m l)(k:Nat):Rd w (some (eJ j k)) (l.drop k):=by intro b a;have c:=h.1;rw[jE] at a;refine⟨j,k,rfl, ?_⟩;rw[h.cellAt _ (by omega),List.getElem_drop,gg (by omega)]
theorem F7{j:Type}{c:List j}(h:c.Nodup){a b:Nat}(f:a<c.length)(g:b<c.length)(e:c[a]=c[b]):a=b:=by
 have i:=jJ.1 h;rcases Az a b with d|d|d
 ·exact absurd e (i a b f g d)
 ·exact d
 ·exact absurd e.symm (i b a g f d)
end
section
structure Rg where
 at_:Int
 iU:Int
 g:Nat
 c:Nat
 bs:gh
def Rg.eL(r:Rg):fY:=[eE r.at_,eE r.bs.length,eE r.iU,fN r.g r.bs r.c]
abbrev iY(rs:List Rg):fY:=fO Rg.eL rs
theorem jO(a:Rg):a.eL.length=4:=rfl
theorem vv(r:Rg):∀a∈r.eL,a.oneCell'=true:=by intro a b;simp only[Rg.eL,fm,gp,gq] at b;rcases b with rfl|rfl|rfl|rfl<;>rfl
theorem pW(a:List Rg):(iY a).length=a.length*4:=kU jO a
theorem ov(a b:List Rg):iY (a++b)=iY a++iY b:=hZ a b
theorem np(a:List Rg):∀b∈iY a,b.oneCell'=true:=Ay vv a
structure j'(w:eI)(B p:Nat)(rs:List Rg)(v:eS):Prop where
 eH:eQ w p 152 #[v]
 low:B<=p
 row:w.ownsRow B 157 4 v rs.length (iY rs)
 each:∀r∈rs,w.ownsRow B 5 1 (.slice (some ⟨r.g,0,none⟩) r.bs.length r.c) r.bs.length (jl r.bs)
 pX:(rs.map Rg.g).Nodup
 iO:rs.length<=4096
 vq:∀r∈rs,0<=r.at_/\r.at_+r.bs.length<=4294967296
def jr:mB:=[152,157,5]
section
variable {w w':eI} {B p:Nat} {rs:List Rg} {v:eS}
theorem j'.ext(h:j' w B p rs v)(a:eF w w'):j' w' B p rs v:=
 ⟨a.eH h.eH,h.low,a.own h.row,λb c=>a.own (h.each b c),h.pX,h.iO,h.vq⟩
theorem j'.ch{B0:Nat}{L:mB}{M:fe}(h:j' w B p rs v)(a:CH B0 L M w w')(b:∀t∈jr,t∉L)(hM:∀m∈M,∀l t n,w.heap[m]? =some (.cells l t n)->t∉jr):j' w' B p rs v:=by
 have g:∀{o:Nat} {e:ik} {size r:Nat} {i:eS} {s:fY},w.ownsRow o e size i r s->e∈jr->∀c,i.ownBlock=some c->c∉M:=λu x c d f=>by
  rcases u.2 with⟨rfl,_⟩|⟨z,A,C,rfl,_,y,_⟩
  ·cases d
  ·simp only[Value.ownBlock,fd] at d;subst d;exact hM _ f _ _ _ y x
 exact⟨a.eH h.eH (b _ (by simp[jr])) (λf=>hM _ f _ _ _ h.eH (by simp[jr])),h.low,a.own h.row (b _ (by simp[jr])) (g h.row (by simp[jr])),
  λj k=>a.own (h.each j k) (b _ (by simp[jr])) (g (h.each j k) (by simp[jr])),h.pX,h.iO,h.vq⟩
theorem j'.at(h:j' w B p rs v){i:Nat}(b:i<rs.length):∃g c,v=fN g rs c/\B<=g/\g<w.heap.size/\c<=maxLen/\
 w.cell? (eJ g (i*4))=some (eE rs[i].at_)/\w.cell? (eJ g (i*4+1))=some (eE rs[i].bs.length)/\w.cell? (eJ g (i*4+2))=some (eE rs[i].iU)/\w.cell? (eJ g (i*4+3))=some (fN (rs[i].g) rs[i].bs.length rs[i].c):=by obtain⟨g,c,rfl,d,f,_,k⟩:=jI h.row (by omega);have a:=λj v l (m:(rs[i].eL)[j]? =some v)=>us jO h.row rfl b (j:=j) l m;exact⟨g,c,rfl,d,f,k,a 0 _ (by omega) rfl,a 1 _ (by omega) rfl,a 2 _ (by omega) rfl,a 3 _ (by omega) rfl⟩
theorem j'.cap(h:j' w B p rs v){r:Rg}(b:r∈rs):r.bs.length<=r.c/\r.c<=maxLen:=by
 rcases(h.each r b).2 with⟨a,_⟩|⟨f,g,i,a,_,_,c,d,_⟩
 ·cases a
 ·simp only[ml,fd,ny,gP,ky] at a;obtain⟨rfl,rfl⟩:=a;exact⟨c,d⟩
theorem j'.slice(h:j' w B p rs v):∃A c,v=.slice A rs c:=eR h.row
end
def jn(n:Int):Int:=(n+64- 1)/64*64
def iq(h':Int):List Rg->Int->Int
 |[],a=>a
 |r::rs,a=>if h'<=r.at_- a then a else iq h' rs (max a (r.at_+r.bs.length))
end
theorem Mv(a:Int)(b:eI)(d:0<=a)(f:a<=1048576):Calls prog 182 #[eE a] b λe c=>e=fH (eE (jn a))/\b=c:=by go_in;go_wp2;go_ret;exact⟨kj rfl,rfl⟩
theorem xZ(a b:Int)(c:eI)(f:1<=a)(g:a<=1048576)(i:0<=b)(j:b<=7):Calls prog 183 #[eE a,eE b] c λe d=>e=fH (eE 0)/\c=d:=by go_in;go_wp2;go_ret;exact⟨kj rfl,rfl⟩
theorem B4(G p:Nat)(a:List Rg)(v:eS)(n:Int)(m:eI)(h:j' m G p a v)(W:1<=n)(H:n<=1048576)(I:iq (jn n) a 4096<=4294967296- jn n):
 Calls prog 108 #[fw p,eE n] m λe j=>e=fH (ij #[eE (iq (jn n) a 4096),eE 0])/\eF m j:=by
 have z:=eD h;have o:=eD (λj=>Mv n j (by omega) H);have X:0<=jn n:=by unfold jn;omega
 have Y:jn n<=1048640:=by unfold jn;omega
 have Z:=h.eH.cell 0 (v:=v) rfl;obtain⟨ad,ae,rfl⟩:=h.slice;have af:=h.iO;clear h;have A:Hid (∃f,iq (jn n) a 4096=f):=eD ⟨_,rfl⟩;generalize J:jn n=g at*;clear J;obtain⟨f,r⟩:=A.out;rw[r] at I ⊢;have K:=eD r;clear r A;go_in;go_wp
 go_loopw [20,6] (λs L wr=>∃(b:Nat) (at_:Int),b<=a.length/\s=eE b/\L=eE at_/\4096<=at_/\at_<=4294967296/\iq g (a.drop b) at_=f/\eF m wr) (λs _ _=>a.length- (intOf s).toNat)
 case atStart=>exact⟨0,4096,eX _,rfl,rfl,by omega,by omega,K,eF.refl _⟩
 case round=>
  obtain⟨b,at_,hk,rfl,rfl,ag,ah,B,C⟩:=hrel;have t:=eD C;have k:=eD B;clear C B;by_cases u:b<a.length
  ·obtain⟨ai,c2,M,_,aj,_,N,O,_,_⟩:=(z.ext t).at u;injection M with P _ Q
   subst P Q;have R:=z.vq _ (eU u);have D:=sN u;rw[D] at k;have l:Hid ((if g<=a[b].at_- at_ then at_ else iq g (a.drop (b+1)) (max at_ (a[b].at_+a[b].bs.length)))=f):=eD k;clear k D;generalize a[b]=S at*;obtain⟨d,w,rg,x,c⟩:=S;simp only at N O R l;go_wp2;have y:=eQ.new wr 157 #[eE d,eE c.length,eE w,fN rg c x];have T:=eF.alloc wr (eN #[eE d,eE c.length,eE w,fN rg c x] 157);generalize wr.alloc (eN #[eE d,eE c.length,eE w,fN rg c x] 157)=i at*;generalize wr.heap.size=t8 at*;have b0:=y.ew 0 (eE d) rfl;refine mD [0,1,2,3,4,5] [6,7] (λj=>∃g:EW i,j=g.w) (by kernel_rfl) (by kernel_rfl) (by decide) (by simp[gj];rfl) (by simp[gj];exact⟨rfl,rfl⟩) ⟨⟨_,eF.drew i⟩,rfl⟩ ?_;repeat(go_big_quiet_step (fail))
   refine eO ?_;go_wp
   refine(o _).mono ?_;rintro e w3 ⟨rfl,rfl⟩;have E:=eD (t.trans (T.trans (eF.drew i)));have b1:=(eF.drew i).cell (y.ce 0 (eE d));have b2:=(eF.drew i).cell (y.ce 1 (eE c.length));go_wp2;refine⟨⟨⟨_,eF.drew i⟩,rfl⟩, ?_⟩;by_cases F:g<=d- at_
   ·rw[fW F] at l;obtain rfl:at_=f:=l.out;go_wp21
    refine(o _).mono ?_;rintro e U ⟨rfl,rfl⟩;go_wp2;go_ret2
    exact⟨kj rfl,E⟩
   ·rw[fG F] at l;go_wp
    go_roundw
    case rel=>exact⟨b+1,max at_ (d+c.length),by omega,by go_num,by first|rfl|(congr 1;omega),by omega,by omega,l,E⟩
    case measure=>simp[intOf];omega
  ·have V:b=a.length:=by omega
   subst V;rw[Jr] at k;obtain rfl:at_=f:=k.out;go_wp
   refine(o _).mono ?_;rintro e U ⟨rfl,rfl⟩;go_wp2;go_ret2
   exact⟨kj rfl,t⟩
theorem Js(o j:Nat)(b:List Rg)(v:eS)(c:Int)(d:Nat)(f:eI)(h:j' f o j b v)(C:d<b.length)(k:b[d].at_=c)(l:∀m (D:m<d),b[m].at_≠c):
 Calls prog 130 #[fw j,eE c] f λe p=>e=fH (ij #[eE d,eE 0])/\eF f p:=by
 have r:=eD h;have s:=eD l;have t:=eD k;have E:=h.eH.cell 0 (v:=v) rfl;obtain⟨F,G,rfl⟩:=h.slice;have H:=h.iO;clear h l k;go_in;go_wp
 go_loopw [13] (λg wr=>∃a:Nat,a<=d/\g=eE a/\eF f wr) (λg _=>b.length- (intOf g).toNat)
 case atStart=>exact⟨0,eX _,rfl,eF.refl _⟩
 case round=>
  obtain⟨a,I,rfl,n⟩:=hrel;have i:=eD n;clear n;have u:a<b.length:=by omega
  obtain⟨J,K,w,_,L,_,x,M,N,O⟩:=(r.ext i).at u;injection w with y _ z
  subst y z;by_cases A:a=d
  ·subst A;rw[t] at x;have B:(c==c)=true:=Dw _;go_wp2;go_ret2
   exact⟨kj rfl,i.trans oP⟩
  ·have B:(b[a].at_==c)=false:=mn.2 (s a (by omega));generalize b[a].at_=P at*;go_wp
   go_roundw
   case rel=>exact⟨a+1,by omega,by go_num,i.trans oP⟩
   case measure=>simp[intOf];omega
def oR(p q:Int):Prop:=(p=0/\q=0)\/(p=3/\q=0)\/(p=5/\q=0)\/(p=5/\q=4)\/(p=3/\q=1)\/(p=3/\q=2)
theorem AB(F w:Nat)(d:List Rg)(v:eS)(a g q:Int)(l:Nat)(b:Rg)(m:eI)(h:j' m F w d v)(n:d[l]? =some b)(G:b.at_<=a)(T:1<=g)(H:a+g<=b.at_+b.bs.length)(x:oR b.iU q)(y:∀z (U:z<l) i,d[z]? =some i->a<i.at_\/i.at_+i.bs.length<=a):
 Calls prog 136 #[fw w,eE a,eE g,eE q] m λe I=>e=fH (ij #[.slice (some (eJ b.g ((a- b.at_).toNat))) g.toNat (b.c- (a- b.at_).toNat),eE 0])/\eF m I:=by
 have o:=eD h;have J:=eD y;have K:=eD n;have V:=(jS.1 n).1;have W:0<=a/\a<=4294967296:=by have:=h.vq b (mp n);omega
 have L:=h.eH.cell 0 (v:=v) rfl;obtain⟨X,Y,rfl⟩:=h.slice;have Z:=h.iO;clear h y n;go_in;go_wp
 go_loopw [17,10,11] (λp k2 pr wr=>∃c:Nat,c<=l/\p=eE c/\eF m wr) (λp _ _ _=>d.length- (intOf p).toNat)
 case atStart=>exact⟨0,eX _,rfl,eF.refl _⟩
 case round=>
  obtain⟨c,hk,rfl,A⟩:=hrel;have j:=eD A;clear A;have k:c<d.length:=by omega
  have r:=o.vq _ (eU k);obtain⟨ad,c2,M,_,ae,_,s,t,B,C⟩:=(o.ext j).at k;have af:=j.cell L;injection M with N _ O
  subst N O;by_cases P:c=l
  ·subst P;have D:=o.cap (eU k);have E:d[c]=b:=by have:=K.out;rw[gg k] at this;exact mj this
   rw[E] at s t B C r D;clear E;obtain⟨f,Q,rg,R,u⟩:=b;simp only at s t B C r D G H x ⊢;have d0:decide (a<f)=false:=by simp;omega
   have d1:decide (a- f>=(u.length:Int))=false:=by simp;omega
   rcases x with⟨rfl,rfl⟩|⟨rfl,rfl⟩|⟨rfl,rfl⟩|⟨rfl,rfl⟩|⟨rfl,rfl⟩|⟨rfl,rfl⟩;all_goals
    go_wp2;go_quiet (fail)
    go_wp
    go_quiet (fail)
    go_wp
    go_quiet (fail)
    go_wp2;go_ret2
    rw[show(a- f+g).toNat- (a- f).toNat=g.toNat by omega];exact⟨kj rfl,by repeat(first|exact j|refine eF.trans ?_ (eF.drewN _ _))⟩
  ·have S:=J c (by omega) d[c] (gg k);generalize d[c]=i at*;obtain⟨f,Q,rg,R,u⟩:=i;simp only at s t r S;by_cases hc:a<f
   ·go_wp2;go_quiet (fail)
    go_wp
    go_roundw
    case rel=>exact⟨c+1,by omega,by go_num,j.trans (eF.drewN _ _)⟩
    case measure=>simp[intOf];omega
   ·have d0:decide (a<f)=false:=by simp;omega
    have d1:decide ((u.length:Int)<=a- f)=true:=by simp;omega
    go_wp2;go_quiet (fail)
    go_wp
    go_roundw
    case rel=>exact⟨c+1,by omega,by go_num,j.trans (eF.drewN _ _)⟩
    case measure=>simp[intOf];omega
theorem Dx{P:Program}(a:eI)(j:Nat)(k n e:ik)(f:TypeInfo)(o:eS)(size bytes:Nat)(s:P.underlying k=some (.slice e))(t:P.info? e=some f)(C:f.zero=some o)(D:f.size=size)(E:f.bytes=bytes)(F:o.cells.size=size)(u:0<size)(b:eS)(g:Nat)(m:fY)(p:a.ownsRow j e size b g m)(v:fE)(r:Nat)(l:fY)(c:Nat)(G:l.length=c*size)(H:Rd a v l)(I:∀w∈l,w.oneCell'=true)(J:g+c<=maxLen)(K:(g+c)*bytes<=140737488355328)(L:j<=a.heap.size):
 ∃d i,(Builtin.append_ #[k,k] n #[b,.slice v c r]).run P a=.ok d i/\i.ownsRow j e size d (g+c) (m++l)/\a.grownBy i b.ownBlock/\(d.ownBlock=b.ownBlock\/d.ownBlock=some a.heap.size):=by
 by_cases M:l=[]
 ·subst M;have Q:c=0:=by
   rcases x5 c with h|h
   ·exact h
   ·have:=Nat.mul_pos h u;simp at G;omega
  subst Q;cases v with
  |none=>exact⟨b,a,uk a j k n e f size s t b g m p r,by simpa using p,World.grownBy.refl a _,.inl rfl⟩
  |some R=>obtain⟨d,i,x,y,z,_,A⟩:=run_append_own_at (P:=P) a j k n e f o size bytes s t C D E F u b g m p R 0 r [] (by simp) (λN w B=>by simp at B) I J K L;exact⟨d,i,x,y,z,A⟩
 ·have S:=pi.2 M;obtain⟨T,U,rfl,_⟩:=H 0 S;obtain⟨d,i,x,y,z,_,A⟩:=run_append_own_at (P:=P) a j k n e f o size bytes s t C D E F u b g m p (eJ T U) c r l G (λN w B=>by obtain⟨V,rfl⟩:=jS.1 B;obtain⟨X,Y,O,W⟩:=H N V;simp only[fd,ny,gP] at O;obtain⟨rfl,rfl⟩:=O;rw[P4];exact W) I J K L
  exact⟨d,i,x,y,z,A⟩
theorem F8{P:Program}{p:Act->eI->Prop}{u:Exit->Act->eI->Prop}(r s:Operand)(k:ik)(v:kE.op=.call {callee:=.builtin .append,args:=#[r,s],argTypes:=#[k,k]})(l:Nat)(e:ik)(d:TypeInfo)(m:eS)(size bytes:Nat)(x:P.underlying k=some (.slice e))(y:P.info? e=some d)(z:d.zero=some m)(A:d.size=size)(B:d.bytes=bytes)(C:m.cells.size=size)(D:0<size)(f:eS)(g:Nat)(n:fY)(E:a.eval r=f)(F:w.ownsRow l e size f g n)(o:fE)(t:Nat)(i:fY)(b:Nat)(G:a.eval s=.slice o b t)(H:i.length=b*size)(I:Rd w o i)(J:∀K∈i,K.oneCell'=true)(L:g+b<=maxLen)(M:(g+b)*bytes<=140737488355328)(N:l<=w.heap.size)(h:∀c j,j.ownsRow l e size c (g+b) (n++i)->w.grownBy j f.ownBlock->(c.ownBlock=f.ownBlock\/c.ownBlock=some w.heap.size)->p (a.put kE.dst c) j):kE.wp P a w p u:=by obtain⟨c,j,O,Q,R,S⟩:=Dx (P:=P) w l k kE.type e d m size bytes x y z A B C D f g n F o t i b H I J L M N;unfold Oper.wp execOp;simp only[v,resolve,invoke,builtin,nU,rt,sU,Hz,hU,jt,E,G,O];exact h c j Q R S
theorem fB{P:Program}{rest:List Oper}{o:Exit->Act->eI->Prop}(r:kE.guard=none)(s x:Operand)(j:ik)(t:kE.op=.call {callee:=.builtin .append,args:=#[s,x],argTypes:=#[j,j]})(k:Nat)(e:ik)(i:TypeInfo)(l:eS)(size bytes:Nat)(v:P.underlying j=some (.slice e))(y:P.info? e=some i)(z:i.zero=some l)(A:i.size=size)(B:i.bytes=bytes)(C:l.cells.size=size)(D:0<size)(c:eS)(d:Nat)(m:fY)(E:a.eval s=c)(F:w.ownsRow k e size c d m)(n:fE)(p:Nat)(f:fY)(b:Nat)(G:a.eval x=.slice n b p)(H:f.length=b*size)(I:Rd w n f)(J:∀u∈f,u.oneCell'=true)(K:d+b<=maxLen)(L:(d+b)*bytes<=140737488355328)(M:k<=w.heap.size)(h:∀v' g,g.ownsRow k e size v' (d+b) (m++f)->w.grownBy g c.ownBlock->(v'.ownBlock=c.ownBlock\/v'.ownBlock=some w.heap.size)->wpList P kG o rest (a.put kE.dst v') g):wpList P kG o (kE::rest) a w:=
 ul r λ_ N=>F8 s x j t k e i l size bytes v y z A B C D c d m E F n p f b G H I J K L M λv' g O Q R=>N _ _ (h v' g O Q R)
def flat(ims:List Im):fY:=ims.flatMap Im.eL
theorem x6(m:Im):flat [m]=m.eL:=by simp[flat]
theorem qu(c:List Im):∀a∈flat c,a.oneCell'=true:=by intro a d;obtain⟨f,_,b⟩:=rA.1 d;simp only[Im.eL,fm,gp,gq] at b;rcases b with rfl|rfl|rfl|rfl|rfl|rfl|rfl|rfl|rfl|rfl|rfl|rfl|rfl|rfl|rfl<;>rfl
theorem Rd.gY{w:eI}{size:Nat}{e:ik}{n cap:Nat}{A:fE}{xs:fY}(h:w.ownsRow k e size (.slice A n cap) n xs):Rd w A xs:=by
 intro a r;rcases h with⟨f,h⟩;rcases h with⟨d,g⟩|⟨b,i,c,d,s,j,l,t,u,m⟩
 ·subst g;rw[Md] at f;omega
 ·injection d with o
  refine⟨b,0,o, ?_⟩;have:w.cell? (eJ b (0+a))=c[0+a]?:=cell_of_row w b (0+a) c e (0,0) j;rw[this,lH];have v:n*size<=i*size:=qU _ l;have p:a<c.size:=by omega
  rw[Vj p];congr 1
  subst m;simp
end
section
open Go.RowKit Pl
def lJ(l:List iV)(k:Nat):fe:=(List.range k).filter λi=>pT (l.getD i rz)
def gK(l:List iV):fe:=lJ l l
def mG(l:List iV)(is:fe):fe:=is.map λi=>gZ (l.getD i rz).name
def rB(n:Nat):Nat:=if n<=4 then 1 else(n+3)/4
def j7(n:Nat):Nat:=if n<=8 then 1 else if n<=16 then 2 else if n<=32 then 4 else if n<=64 then 8 else if n<=128 then 16 else if n<=256 then 32 else 64
def eM(is:fe):fS:=is.map λi:Nat=>(i:Int)
def Jt(l:List iV)(many:Nat)(is:fe)(b:Nat):fe:=is.filter λi=>decide (gZ (l.getD i rz).name%many=b)
theorem F9(b:List iV)(a:Nat):lJ b (a+1)=lJ b a++if pT (b.getD a rz) then[a] else[]:=by
 unfold lJ;rw[un,Dy];congr 1
 simp[Dz]
theorem AC(b:List iV)(a:Nat):(lJ b a).length<=a:=by unfold lJ;refine eY (n8 _ _) ?_;simp
theorem Mw(c:List iV)(a:Nat):∀i∈lJ c a,i<a:=by intro i b;unfold lJ at b;have:=(jb.1 b).1;simpa using this
theorem B5(a:List iV)(b c:fe):mG a (b++c)=mG a b++mG a c:=by simp[mG]
theorem Ju(b:List iV)(a:fe):(mG b a).length=a.length:=by simp[mG]
theorem Mx(a:List iV)(b:fe):∀h∈mG a b,h<4294967296:=by intro h c;obtain⟨d,_,rfl⟩:=fy.1 c;exact(su _).2
theorem iJ(a b:fe):eM (a++b)=eM a++eM b:=by simp[eM]
theorem fv(a:fe):(eM a).length=a.length:=by simp[eM]
theorem wF(a b:fS):ints (a++b)=ints a++ints b:=by simp[ints]
theorem F'(a:List iV)(b:Nat)(d f:fe)(c:Nat):Jt a b (d++f) c=Jt a b d c++Jt a b f c:=by simp[Jt]
theorem Qu(b:List iV)(c:Nat)(a:fe)(d:Nat):(Jt b c a d).length<=a.length:=n8 _ _
theorem My(a:Nat):1<=rB a:=by unfold rB;split<;>omega
theorem Qv(a:Nat):rB a<=a+1:=by unfold rB;split<;>omega
theorem DA(a:Nat):kV (j7 a:Nat) (6:Nat)=true/\1<=j7 a/\j7 a<=64:=by unfold j7;split;exact⟨by decide,by omega,by omega⟩;split;exact⟨by decide,by omega,by omega⟩;split;exact⟨by decide,by omega,by omega⟩;split;exact⟨by decide,by omega,by omega⟩;split;exact⟨by decide,by omega,by omega⟩;split;exact⟨by decide,by omega,by omega⟩;exact⟨by decide,by omega,by omega⟩
def sX(ws:fe)(sh:Int)(h:Nat):Bool:=kV ws.length sh&&vm sh.toNat ws h
theorem AE(f:fE)(g:Nat)(b:Int)(a:fe)(h:Nat)(c:eI)(k:h<4294967296)(l:∀m∈a,m<18446744073709551616)(p:a.length*8<=140737488351232)(n:Rd c f (kq a)):
 Calls prog 237 #[fV #[.slice f a g,eE b],.int .u32 h] c λe i=>e=fH (fz (sX a b h))/\eF c i:=by
 cases d:kV a.length b
 ·refine(Mz f a g b h c (by unfold maxLen;omega) d).mono ?_;rintro e i ⟨rfl,j⟩;exact⟨by simp[sX,d],j⟩
 ·have r:=oJ d;obtain⟨o,rfl⟩:=Dl (by omega:0<=b);refine(Jv f g o h a c k l n d).mono ?_;rintro e i ⟨rfl,j⟩;exact⟨by simp[sX,d],j⟩
theorem Ga(b:iV)(a:List iV)(c:Bool)(is:fS)(g d:Nat)(j:Int×Nat)(i:Int)(h:j=qS b a c (is.drop d) g)(l:is.drop d=i::is.drop (d+1)):
 ((i<0\/(a.length:Int)<=i)->j=qS b a c (is.drop (d+1)) g)/\
 (¬(i<0\/(a.length:Int)<=i)->nL b (a.getD i.toNat rz) c=true->j=(i,g+1))/\
 (¬(i<0\/(a.length:Int)<=i)->nL b (a.getD i.toNat rz) c=false->j=qS b a c (is.drop (d+1)) (g+1)):=by
 rw[h,l];refine⟨λf=> ?_,λf k=> ?_,λf k=> ?_⟩
 ·simp[qS,f]
 ·simp only[qS];rw[fG f,fW k]
 ·simp only[qS];rw[fG f,fG (by rw[k];exact Bool.false_ne_true)]
theorem Sc(a:fS){b:Nat}(h:b<a.length):a.drop b=a.getD b 0::a.drop (b+1):=by rw[jx,gg h];exact sN h
theorem Rd.int{w:eI}{A:fE}(h:Rd w A (ints kM)){i:Nat}(c:i<kM.length):
 ∃b a,A=some (eJ b a)/\b<w.heap.size/\w.cell? (eJ b (a+i))=some (eE (kM.getD i 0)):=by obtain⟨b,a,f,d⟩:=h i (by simpa[ints] using c);refine⟨b,a,f,js d, ?_⟩;rw[d,jx,gg c];simp[ints]
theorem eF.VE(c:eF w v){a:fE}{b:List iV}(h:zD w a b):zD v a b:=h.ext c
theorem AF(h:v.cell? (eJ n k)=some x/\v.cell? (eJ m i)=some y/\v.cell? (eJ j p)=some z/\v.cell? (eJ b c)=some X/\v.cell? (eJ d g)=some Y/\Hid (eF w v))(a:eF v u):
 u.cell? (eJ n k)=some x/\u.cell? (eJ m i)=some y/\u.cell? (eJ j p)=some z/\u.cell? (eJ b c)=some X/\u.cell? (eJ d g)=some Y/\Hid (eF w u):=
 ⟨a.cell h.1,a.cell h.2.1,a.cell h.2.2.1,a.cell h.2.2.2.1,a.cell h.2.2.2.2.1,eD (h.2.2.2.2.2.out.trans a)⟩
theorem Tb.In.Gb{a:Tb}(h:a.In w){i:Nat}(d:i<a.bs.length):∃b c,a.BA=some (eJ b c)/\w.cell? (eJ b (c+i))=some (a.bs.getD i Dq).cell/\(a.bs.getD i Dq).In w:=by
 obtain⟨b,c,f,g⟩:=h.V4 i (by simpa using d);have e:a.bs.getD i Dq=a.bs[i]:=by rw[jx,gg d];rfl
 rw[e];refine⟨b,c,f, ?_,h.VA _ (eU d)⟩;rw[g];simp
theorem MA(L:Tb)(D:iV)(ag:fE)(ak:Nat)(g:List iV)(f:eI)(ht:L.In f)(hr:D.Fit)(hA:zD f ag g)(hl:g.length<=140737488351232)(hb:L.bs.length<4294967296):
 Calls prog 203 #[fV L.eL.toArray,fV D.eL.toArray,.slice ag g ak] f λe b=>e=fH (ij #[eE (wC L D g).1,eE ((wC L D g).2:Nat)])/\eF f b:=by
 have ah:D.name.size<=maxLen:=by have:=hr.name;unfold maxLen;omega
 have W:=su D.name;have X:=eD ht;have HA:=eD hA;have al:=eD (λd v f=>Jo D d v f);obtain⟨Y,r,c,n,wc,j,k⟩:=L;obtain⟨a,s,t,u,w,x,y,z,A⟩:=D;simp only at hb ah W;simp only[Tb.eL,iV.eL] at al ⊢;have E:Hid (wC ⟨Y,r,c,n,wc,j,k⟩ ⟨a,s,t,u,w,x,y,z,A⟩ g=if c.length=0\/sX j k (gZ a)=true then(-1,0) else qS ⟨a,s,t,u,w,x,y,z,A⟩ g (vt g) (c.getD (gZ a%c.length) Dq).is 0):=eD rfl;clear ht hA hr;go_in;go_wp
 have aG:=Jn f #[.slice Y c r,.slice n j wc,eE k] #[eV a,eV s,fz t,eE u,fz w,eE x,fz y,eE z,eE A] 170 118;obtain⟨Q,M,am⟩:=aG;generalize(f.alloc (eN #[.slice Y c r,.slice n j wc,eE k] 170)).alloc (eN #[eV a,eV s,fz t,eE u,fz w,eE x,fz y,eE z,eE A] 118)=wb at*;have t0:=Q.ce 0 (.slice Y c r);have t1:=Q.ce 1 (.slice n j wc);have t2:=Q.ce 2 (eE k);have Z:=M.ce 0 (eV a);have aY:=eD Q;have aH:=eD M;have B:=eD am;clear Q M am;by_cases hz:c.length=0
 ·rw[fW (.inl hz)] at E;obtain rfl:=Ds.1 hz;simp only[jH] at t0;refine wp_region_still_tail 10 (by kernel_rfl) (by kernel_rfl) ?_;simp only[xI,uu,MB,vw];repeat still_step
  refine Ia ?_;go_wp2;exact iA (v:=ij #[eE (-1),eE 0]) (by simp[results,results203,go_sem]) rfl ⟨by rw[E];rfl,B.trans (eF.drew _)⟩
 ·have an:1<=c.length:=by omega
  have ao:Hid (∀b,eF wb b->Calls prog 237 #[fV #[.slice n j wc,eE k],.int .u32 (gZ a:Nat)] b λe N=>e=fH (fz (sX j k (gZ a)))/\eF b N):=
   eD (λb hx=>AE n wc k j (gZ a) b W.2 X.out.S0 X.out.Qo ((B.out.trans hx).rd X.out.Vm))
  have ap:Hid (∀b,Calls prog 233 #[eV a] b λe N=>e=fH (.int .u32 (gZ a:Nat))/\N=b):=eD (λb=>(ui a b ah).mono λe N h=>⟨by rw[W.1];exact h.1,h.2.symm⟩);clear W;have hg:((c.length:Int)==0)=false:=by simp;exact pi.1 an
  clear hz;refine wp_region_still_tail 10 (by kernel_rfl) (by kernel_rfl) ?_;simp only[xI,uu,MB,vw];repeat still_step
  still_call (ap _)
  repeat still_step
  refine Ia ?_;go_wp21
  refine(ao _ (eF.drew _)).mono ?_;rintro e w3 ⟨rfl,ad⟩;have aq:=eD (B.trans ((eF.drew _).trans ad));cases ae:sX j k (gZ a)
  ·rw[fG (by rw[ae];simp;exact pi.1 an)] at E;have aI:gZ a%c.length<c.length:=pS _ (by omega);obtain⟨F,G,ar,R,ai⟩:=X.Gb (i:=gZ a%c.length) aI;simp only at ar R ai;subst ar;have aJ:Hid (∀b,Calls prog 160 #[fV #[.slice (some (eJ F G)) c r,.slice n j wc,eE k],eV a] b λe N=>e=fH (eE (gZ a%c.length:Nat))/\eF b N):=
    eD (λb=>tD _ c.length r _ _ a b (by omega) (by omega) ah)
   generalize aK:c.getD (gZ a%c.length) Dq=m at*;generalize gZ a%c.length=hi at*;have aL:=eD R;have au:=eD ai;have H:=eD ((eF.drew wb).trans ad);clear ae ad R ai aK ao ap hg aq;go_wp21
   refine(zE ag ak g w3 ((B.trans H).VE HA) hl).mono ?_;rintro e C ⟨rfl,O⟩;replace t0:=O.cell (H.cell t0);replace t1:=O.cell (H.cell t1);replace t2:=O.cell (H.cell t2);replace Z:=O.cell (H.cell Z);have av:=eD (H.trans O);clear O H;generalize vt g=S at*;go_wp2;have aw:=(B.trans av).cell aL;simp only[Bk.cell] at aw;have ax:C.cell? (eJ f 0)=some (.slice (some (eJ F G)) c r)/\C.cell? (eJ f 1)=some (.slice n j wc)/\C.cell? (eJ f 2)=some (eE k)/\C.cell? (eJ (f.heap.size+1) 0)=some (eV a)/\C.cell? (eJ F (G+hi))=some (.slice m.A m.is m.c)/\Hid (eF C C):=⟨t0,t1,t2,Z,aw,eD (eF.refl _)⟩;go_region_held3 (λb=>b.cell? (eJ f 0)=some (.slice (some (eJ F G)) c r)/\b.cell? (eJ f 1)=some (.slice n j wc)/\b.cell? (eJ f 2)=some (eE k)/\b.cell? (eJ (f.heap.size+1) 0)=some (eV a)/\b.cell? (eJ F (G+hi))=some (.slice m.A m.is m.c)/\Hid (eF C b))
    (first|exact ax|exact AF ax (eF.drew _)|exact AF (by assumption) (by assumption))
    (first|(go_at_call 160;refine(aJ.out _).mono ?_;rintro e I ⟨rfl,aM⟩))
   obtain⟨_,_,_,_,R,aN⟩:I.cell? (eJ f 0)=some (.slice (some (eJ F G)) c r)/\I.cell? (eJ f 1)=some (.slice n j wc)/\I.cell? (eJ f 2)=some (eE k)/\I.cell? (eJ (f.heap.size+1) 0)=some (eV a)/\I.cell? (eJ F (G+hi))=some (.slice m.A m.is m.c)/\Hid (eF C I):=by assumption
   have T:=eD (av.trans aN.out);have ay:=eD (au.ext (B.trans T));have M:=T.eH aH;have aO:m.is.length<=17592186044416:=by have:=au.len;omega
   clear aM t0 t1 t2 Z;have aP:=eD M;clear M;obtain⟨KA,kc,is⟩:=m;simp only at R aO E;go_wp2;go_loopw [9,35] (λaQ i wr=>∃l o:Nat,l<=is.length/\o<=l/\i=eE l/\aQ=eE o/\qS ⟨a,s,t,u,w,x,y,z,A⟩ g S is 0=qS ⟨a,s,t,u,w,x,y,z,A⟩ g S (is.drop l) o/\eF I wr) (λ_ i _=>is.length- (intOf i).toNat)
   case atStart=>exact⟨0,0,eX _,fJ _,rfl,rfl,rfl,eF.refl _⟩
   case round=>
    obtain⟨l,o,hk,hm,rfl,rfl,hf,hx⟩:=hrel;have HF:=eD hf;have J:=eD hx;clear hf hx;by_cases aj:l<is.length
    ·obtain⟨ib,io,az,aZ,aA⟩:=ay.rd.int aj;simp only at az;subst az;replace aA:=J.cell aA;obtain⟨q1,q2,q3⟩:=Ga ⟨a,s,t,u,w,x,y,z,A⟩ g S is o l _ _ HF (Sc is aj);have a0:=ay.vq _ (pR (d:=0) aj);generalize is.getD l 0=aB at*;by_cases aR:aB<0
     ·have K:=eD (q1 (.inl aR));clear q1 q2 q3;go_wp2;go_roundw
      case rel=>exact⟨l+1,o,by omega,by omega,by go_num,rfl,K,J⟩
      case measure=>simp[intOf];omega
     ·obtain⟨P,rfl⟩:=Dl (by omega:0<=aB);by_cases a1:g.length<=P
      ·have K:=eD (q1 (.inr (by omega)));clear q1 q2 q3;go_wp2;go_roundw
       case rel=>exact⟨l+1,o,by omega,by omega,by go_num,rfl,K,J⟩
       case measure=>simp[intOf];omega
      ·have aC:P<g.length:=by omega
       have U:=eD (q2 (by omega));have V:=eD (q3 (by omega));rw[uv] at U V;clear q1 q2 q3;obtain⟨yb,yo,rfl,a2,hy⟩:=HA.Dt aC;have aD:g.getD P rz=g[P]:=by rw[jx,gg aC];rfl
       rw[aD] at U V;generalize g[P]=d at*;have HM:=eD (al d S);obtain⟨h0,h1,h2,h3,h4,h5,h6,h7,h8⟩:=hy.ext (B.trans (T.trans J));obtain⟨name,aS,aT,kind,aU,aV,aW,aX,size⟩:=d;simp only at h0 h1 h2 h3 h4 h5 h6 h7 h8;simp only at HM;have p:=J.eH aP;have s0:=p.ce 0 (eV a);have s1:=p.ce 1 (eV s);have s2:=p.ce 2 (fz t);have s3:=p.ce 3 (eE u);have s4:=p.ce 4 (fz w);have s5:=p.ce 5 (eE x);have s6:=p.ce 6 (fz y);have s7:=p.ce 7 (eE z);have s8:=p.ce 8 (eE A);clear p hy aD;go_wp2;refine wp_region_still_tail 6 (by kernel_rfl) (by kernel_rfl) ?_;simp only[xI,uu,MB,vw];repeat still_step
       refine Ia ?_;go_wp
       refine(HM _).mono ?_;rintro e w7 ⟨rfl,aE⟩;have aF:=eD (J.trans ((eF.drew _).trans aE));clear aE h0 h1 h2 h3 h4 h5 h6 h7 h8 s0 s1 s2 s3 s4 s5 s6 s7 s8;cases af:nL ⟨a,s,t,u,w,x,y,z,A⟩ ⟨name,aS,aT,kind,aU,aV,aW,aX,size⟩ S
       ·have K:=eD (V af);clear af U V;go_wp2;go_roundw
        case rel=>exact⟨l+1,o+1,by omega,by omega,by go_num,by go_num,K,aF⟩
        case measure=>simp[intOf];omega
       ·have K:=eD (U af);clear af U V;go_wp2;exact iA (v:=ij #[eE (P:Int),eE (o+1:Nat)]) (by simp[results,results203,go_sem]) rfl ⟨by rw[E,K],B.trans (T.trans aF)⟩
    ·rw[show is.drop l=[] from Um (by omega)] at HF;go_wp2;exact iA (v:=ij #[eE (-1),eE (o:Nat)]) (by simp[results,results203,go_sem]) rfl ⟨by rw[E,HF];rfl,B.trans (T.trans J)⟩
  ·rw[fW (.inr ae)] at E;clear ae ad;go_wp2;exact iA (v:=ij #[eE (-1),eE 0]) (by simp[results,results203,go_sem]) rfl ⟨by rw[E];rfl,aq⟩
theorem Jw(a:Int)(d:eI)(g: -9223372036854775808<=a)(i:a<=4611686018427387904):
 Calls prog 159 #[eE a] d λe f=>e=fH (eE (rB a.toNat:Nat))/\d=f:=by
 by_cases j:a<=4
 ·have b:Hid (rB a.toNat=1):=eD (by unfold rB;rw[fW (by omega)]);by_cases k:1<=a
  ·go_in;go_wp2;go_ret;exact⟨kj (by rw[b];exact congrArg (Value.int .i64) (by omega)),rfl⟩
  ·by_cases l: -3<=a
   ·go_in;go_wp2;go_ret;exact⟨kj (by rw[b];exact congrArg (Value.int .i64) (by omega)),rfl⟩
   ·have m:(a+4- 1).tdiv 4<=1:=by
     have e:(a+4- 1).tdiv 4= -((-(a+4- 1)).tdiv 4):=by rw[Int.neg_tdiv,Int.neg_neg]
     rw[e,Int.tdiv_eq_ediv_of_nonneg (by omega)];omega
    go_in;go_wp2;go_ret;exact⟨kj (by rw[b];exact congrArg (Value.int .i64) (by omega)),rfl⟩
 ·obtain⟨c,rfl⟩:=Dl (by omega:0<=a);have b:Hid (rB (c:Int).toNat=(c+3)/4):=eD (by unfold rB;rw[uv,fG (by omega)]);go_in;go_wp2;go_ret;exact⟨kj (by rw[show rB c=(c+3)/4 from b];exact congrArg (Value.int .i64) (by omega)),rfl⟩
theorem MC(a:Nat)(m:eI)(h:a<=9223372036854775807):
 Calls prog 158 #[eE a] m λe n=>e=fH (eE (j7 a:Nat))/\m=n:=by
 go_in;go_wp
 go_loop [3] (λl=>∃f:Nat,f<=6/\l=eE ((2^f:Nat):Int)/\∀b,b<f->8*2^b<a) (λl=>(64- intOf l).toNat)
 case atStart=>exact⟨0,by omega,rfl,λb j=>by omega⟩
 case round=>
  obtain⟨f,p,rfl,c⟩:=hrel;have o:f=0\/f=1\/f=2\/f=3\/f=4\/f=5\/f=6:=by omega
  rcases o with rfl|rfl|rfl|rfl|rfl|rfl|rfl
  ·clear c;rw[show(((2^0:Nat):Nat):Int)=1 from rfl];by_cases k:8<a
   ·go_wp2;go_round
    case rel=>exact⟨1,by omega,rfl,λb j=>by have g:2^b<=2^0:=wG (by omega) (by omega);rw[show(2:Nat)^0=1 from rfl] at g;omega⟩
    case measure=>simp[intOf]
   ·have d:Hid (j7 a=1):=eD (by unfold j7;rw[fW (by omega)]);go_wp2;go_ret;exact⟨kj (by rw[d];exact congrArg (Value.int .i64) (by omega)),rfl⟩
  ·have i:=c 0 (by omega);rw[show 8*2^0=8 from rfl] at i;clear c;rw[show(((2^1:Nat):Nat):Int)=2 from rfl];by_cases k:16<a
   ·go_wp2;go_round
    case rel=>exact⟨2,by omega,rfl,λb j=>by have g:2^b<=2^1:=wG (by omega) (by omega);rw[show(2:Nat)^1=2 from rfl] at g;omega⟩
    case measure=>simp[intOf]
   ·have d:Hid (j7 a=2):=eD (by unfold j7;rw[fG (by omega)];rw[fW (by omega)]);go_wp2;go_ret;exact⟨kj (by show Value.int .i64 2=_;rw[d];rfl),rfl⟩
  ·have i:=c 1 (by omega);rw[show 8*2^1=16 from rfl] at i;clear c;rw[show(((2^2:Nat):Nat):Int)=4 from rfl];by_cases k:32<a
   ·go_wp2;go_round
    case rel=>exact⟨3,by omega,rfl,λb j=>by have g:2^b<=2^2:=wG (by omega) (by omega);rw[show(2:Nat)^2=4 from rfl] at g;omega⟩
    case measure=>simp[intOf]
   ·have d:Hid (j7 a=4):=eD (by unfold j7;rw[fG (by omega)];rw[fG (by omega)];rw[fW (by omega)]);go_wp2;go_ret;exact⟨kj (by show Value.int .i64 4=_;rw[d];rfl),rfl⟩
  ·have i:=c 2 (by omega);rw[show 8*2^2=32 from rfl] at i;clear c;rw[show(((2^3:Nat):Nat):Int)=8 from rfl];by_cases k:64<a
   ·go_wp2;go_round
    case rel=>exact⟨4,by omega,rfl,λb j=>by have g:2^b<=2^3:=wG (by omega) (by omega);rw[show(2:Nat)^3=8 from rfl] at g;omega⟩
    case measure=>simp[intOf]
   ·have d:Hid (j7 a=8):=eD (by unfold j7;rw[fG (by omega)];rw[fG (by omega)];rw[fG (by omega)];rw[fW (by omega)]);go_wp2;go_ret;exact⟨kj (by show Value.int .i64 8=_;rw[d];rfl),rfl⟩
  ·have i:=c 3 (by omega);rw[show 8*2^3=64 from rfl] at i;clear c;rw[show(((2^4:Nat):Nat):Int)=16 from rfl];by_cases k:128<a
   ·go_wp2;go_round
    case rel=>exact⟨5,by omega,rfl,λb j=>by have g:2^b<=2^4:=wG (by omega) (by omega);rw[show(2:Nat)^4=16 from rfl] at g;omega⟩
    case measure=>simp[intOf]
   ·have d:Hid (j7 a=16):=eD (by unfold j7;rw[fG (by omega)];rw[fG (by omega)];rw[fG (by omega)];rw[fG (by omega)];rw[fW (by omega)]);go_wp2;go_ret;exact⟨kj (by show Value.int .i64 16=_;rw[d];rfl),rfl⟩
  ·have i:=c 4 (by omega);rw[show 8*2^4=128 from rfl] at i;clear c;rw[show(((2^5:Nat):Nat):Int)=32 from rfl];by_cases k:256<a
   ·go_wp2;go_round
    case rel=>exact⟨6,by omega,rfl,λb j=>by have g:2^b<=2^5:=wG (by omega) (by omega);rw[show(2:Nat)^5=32 from rfl] at g;omega⟩
    case measure=>simp[intOf]
   ·have d:Hid (j7 a=32):=eD (by unfold j7;rw[fG (by omega)];rw[fG (by omega)];rw[fG (by omega)];rw[fG (by omega)];rw[fG (by omega)];rw[fW (by omega)]);go_wp2;go_ret;exact⟨kj (by show Value.int .i64 32=_;rw[d];rfl),rfl⟩
  ·have i:=c 5 (by omega);rw[show 8*2^5=256 from rfl] at i;clear c;rw[show(((2^6:Nat):Nat):Int)=64 from rfl];have d:Hid (j7 a=64):=eD (by unfold j7;rw[fG (by omega)];rw[fG (by omega)];rw[fG (by omega)];rw[fG (by omega)];rw[fG (by omega)];rw[fG (by omega)]);go_wp2;go_ret;exact⟨kj (by show Value.int .i64 64=_;rw[d];rfl),rfl⟩
theorem x7:(prog.info? 3).map (λi=>(i.zero,i.size,i.bytes))=some (some (.int .i64 0),1,8):=by kernel_rfl
theorem MD:(prog.info? 334).map (λa=>(a.zero,a.size,a.bytes))=some (some (.int .u32 0),1,4):=by kernel_rfl
structure DB(w0 w:eI)(v:eS)(n:Nat)(xs:fY)(u:eS)(m:Nat)(ys:fY):Prop where
 i:w.ownsRow w0 3 1 v n xs
 h:w.ownsRow w0 334 1 u m ys
 x:eF w0 w
theorem DB.ex{w:eI}{v u:eS}{n m:Nat}{xs:fY}(s:DB W w v n xs u m l)(a:eF w V):DB W V v n xs u m l:=⟨a.own s.i,a.own s.h,s.x.trans a⟩
theorem DB.S3{v:eS}(a:DB w u v n l x k L)(c:W.ownsRow w 3 1 y m J)(b:u.grownBy W v.ownBlock):DB w W y m J x k L:=
 ⟨c,a.h.kept b (kQ a.h a.i (by decide)),(fi.grown b).ext a.x (λd f=>(a.i.lt d f.symm).1)⟩
theorem DB.S4{v:eS}(a:DB w u v n l x k L)(c:W.ownsRow w 334 1 y m J)(b:u.grownBy W x.ownBlock):DB w W v n l y m J:=
 ⟨a.i.kept b (kQ a.i a.h (by decide)),c,(fi.grown b).ext a.x (λd f=>(a.h.lt d f.symm).1)⟩
theorem eQ.rd{w:eI}{g:Nat}{e:ik}{xs:fY}(h:eQ w g e xs.toArray):Rd w (some (eJ g 0)) xs:=by intro a b;exact⟨g,0,rfl,by rw[lH];exact h.cell a (by simp[b])⟩
structure ow(w0 w:eI)(v:eS)(n:Nat)(xs:fY)(u:eS)(m:Nat)(ys:fY)(b:Nat)(cs:kx):Prop where
 s:DB w0 w v n xs u m ys
 b:eQ w b 118 cs
theorem Ib{e:ik}(h:w.ownsRow n e 1 x k l)(a:eQ w m 118 kJ)(b:e≠118):some m≠x.ownBlock:=by
 rcases h.2 with⟨rfl,_⟩|⟨c,d,f,rfl,_⟩
 ·simp[Value.ownBlock]
 ·have:=vk h a b;simpa[Value.ownBlock] using this
theorem ow.ex{w:eI}{v u:eS}{n m b:Nat}{xs:fY}(s:ow W w v n xs u m l b kJ)(a:eF w V):ow W V v n xs u m l b kJ:=⟨s.s.ex a,a.eH s.b⟩
theorem ow.S3{v:eS}(a:ow w u v n l x k L i kJ)(c:W.ownsRow w 3 1 y m J)(b:u.grownBy W v.ownBlock):ow w W y m J x k L i kJ:=
 ⟨a.s.S3 c b,a.b.grown b (Ib a.s.i a.b (by decide))⟩
theorem ow.S4{v:eS}(a:ow w u v n l x k L i kJ)(c:W.ownsRow w 334 1 y m J)(b:u.grownBy W x.ownBlock):ow w W v n l y m J i kJ:=
 ⟨a.s.S4 c b,a.b.grown b (Ib a.s.h a.b (by decide))⟩
def Hs(w:eI)(l:List iV)(r:Ending)(w':eI):Prop:=
 ∃A c B d,r=fH (ij #[.slice A (gK l).length c,.slice B (gK l).length d])/\DB w w' (.slice A (gK l).length c) (gK l).length (ints (eM (gK l))) (.slice B (gK l).length d) (gK l).length (ud (mG l (gK l)))
theorem ya(L:fE)(af:Nat)(a:List iV)(f:eI)(M:zD f L a)(N:∀ag∈a,ag.Fit)(hl:a.length<=512):
 Calls prog 156 #[.slice L a af] f λah d=>Hs f a ah d:=by
 obtain⟨i0,ai,aj,ak,al⟩:=info_parts x7;obtain⟨i1,am,an,ao,ap⟩:=info_parts MD;have HA:=eD M;have HF:=eD N;clear M N;go_in;go_wp
 go_loopw [4,5,10] (λaq h z wr=>∃(b:Nat) (v j:eS),b<=a.length/\v=aq/\j=h/\z=eE b/\DB f wr v (lJ a b).length (ints (eM (lJ a b))) j (lJ a b).length (ud (mG a (lJ a b)))) (λ_ _ z _=>a.length- (intOf z).toNat)
 case atStart=>exact⟨0,_,_,eX _,rfl,rfl,rfl,⟨ji _ _ _ _,ji _ _ _ _,eF.refl _⟩⟩
 case round=>
  obtain⟨b,v,j,hk,rfl,rfl,rfl,O⟩:=hrel;have g:=eD O;clear O;by_cases A:b<a.length
  ·obtain⟨yb,yo,rfl,aB,P⟩:=HA.Dt A;have ar:=HF _ (eU A);have B:a.getD b rz=a[b]:=by rw[jx,gg A];rfl
   have i:=eD (F9 a b);have aC:=AC a b;have au:=eD (B5 a (lJ a b) [b]);have av:Hid (mG a [b]=[gZ a[b].name]):=eD (by simp only[mG,hU,jt,B]);rw[B] at i;clear B;generalize lJ a b=c at*;generalize a[b]=C at*;obtain⟨Q,R,S,T,U,V,W,X,Y⟩:=P.ext g.x;have D:=eD (xT C);have Z:C.name.size<=maxLen:=by have:=ar.name;unfold maxLen;omega
   obtain⟨name,k,l,kind,m,n,o,p,size⟩:=C;simp only at Q R S T U V W X Y Z;simp only[iV.eL] at D;have aw:Hid (∀d,Calls prog 233 #[eV name] d λe r=>e=fH (.int .u32 (gZ name:Nat))/\d=r):=eD (λd=>(ui name d Z).mono λe r h=>⟨by rw[(su name).1];exact h.1,h.2⟩);clear P;go_wp21
   have E:eQ (wr.alloc (eN #[eV name,eV k,fz l,eE kind,fz m,eE n,fz o,eE p,eE size] 118)) wr 118 #[eV name,eV k,fz l,eE kind,fz m,eE n,fz o,eE p,eE size]:=eQ.new _ _ _;have ad:=eF.alloc wr (eN #[eV name,eV k,fz l,eE kind,fz m,eE n,fz o,eE p,eE size] 118);generalize wr.alloc (eN #[eV name,eV k,fz l,eE kind,fz m,eE n,fz o,eE p,eE size] 118)=wb at*;refine(D _).mono ?_;rintro e r ⟨rfl,u⟩;have n0:r.cell? (eJ wr 0)=some (eV name):=u.cell (E.cell 0 rfl);have w:=g.ex (ad.trans u);have x:=u.eH E;clear Q R S T U V W X Y E ad u D;cases y:pT ⟨name,k,l,kind,m,n,o,p,size⟩
   ·rw[y] at i;have F:Hid (lJ a (b+1)=c):=eD (by rw[i];simp);have ax:=eD w;clear y i w g x n0;go_wp2;go_roundw
    case rel=>exact⟨b+1,v,j,by omega,rfl,rfl,by go_num,by rw[F];exact ax⟩
    case measure=>simp[intOf];omega
   ·rw[y] at i;have F:Hid (lJ a (b+1)=c++[b]):=eD (by rw[i];simp);have ay:Hid (∀G H d ae cs,ow f d G (c.length+1) (ints (eM c)++[.int .i64 (b:Int)]) H (c.length+1) (ud (mG a c)++[.int .u32 (gZ name:Nat)]) ae cs->
     DB f d G (lJ a (b+1)).length (ints (eM (lJ a (b+1)))) H (lJ a (b+1)).length (ud (mG a (lJ a (b+1))))):=eD (by
     intro G H d ae cs h;rw[F,au,av,iJ,wF,fT];have e:ud (mG a c++[gZ name])=ud (mG a c)++[.int .u32 (gZ name:Nat)]:=by simp[ud]
     rw[e];exact h.s)
    clear y i g;have aD:ow f r v c (ints (eM c)) j c (ud (mG a c)) wr #[eV name,eV k,fz l,eE kind,fz m,eE n,fz o,eE p,eE size]:=⟨w,x⟩;have aE:=x.lt;clear w x;go_wp2;go_region_law (first
     |(go_simp;go_at_call 233;refine(aw.out _).mono ?_;rintro e w5 ⟨rfl,rfl⟩)
     |(refine ou rfl _ _ 23 rfl f.heap.size 3 i0 (.int .i64 0) 8 underlying23 ai aj ak al rfl v c.length (ints (eM c)) rfl (DB.i (ow.s (by first|assumption|exact ow.ex (by assumption) (eF.alloc _ _)|exact ow.ex (by assumption) (eF.drew _)|exact ow.ex (by assumption) ((eF.alloc _ _).trans (eF.drew _))|exact ow.ex (by assumption) ((eF.alloc _ _).trans (eF.alloc _ _))|exact ow.ex (by assumption) (((eF.alloc _ _).trans (eF.alloc _ _)).trans (eF.drew _))))) _ _ [.int .i64 b] 1 rfl rfl (eQ.rd (eQ.new _ _ _)) (λaz I=>by rw[fF.1 I];rfl) (by simp only[maxLen];omega) (by omega) (eF.size (DB.x (ow.s (by first|assumption|exact ow.ex (by assumption) (eF.alloc _ _)|exact ow.ex (by assumption) (eF.drew _)|exact ow.ex (by assumption) ((eF.alloc _ _).trans (eF.drew _))|exact ow.ex (by assumption) ((eF.alloc _ _).trans (eF.alloc _ _))|exact ow.ex (by assumption) (((eF.alloc _ _).trans (eF.alloc _ _)).trans (eF.drew _)))))) ?_;intro v7 w7 s t J;have K:=ow.S3 (by first|assumption|exact ow.ex (by assumption) (eF.alloc _ _)|exact ow.ex (by assumption) (eF.drew _)|exact ow.ex (by assumption) ((eF.alloc _ _).trans (eF.drew _))|exact ow.ex (by assumption) ((eF.alloc _ _).trans (eF.alloc _ _))|exact ow.ex (by assumption) (((eF.alloc _ _).trans (eF.alloc _ _)).trans (eF.drew _))) s t;have n7:=eQ.cell (ow.b K) 0 rfl;clear s t J)
     |(refine ou rfl _ _ 341 rfl f.heap.size 334 i1 (.int .u32 0) 4 underlying341 am an ao ap rfl j c.length (ud (mG a c)) rfl (DB.h (ow.s (by first|assumption|exact ow.ex (by assumption) (eF.alloc _ _)|exact ow.ex (by assumption) (eF.drew _)|exact ow.ex (by assumption) ((eF.alloc _ _).trans (eF.drew _))|exact ow.ex (by assumption) ((eF.alloc _ _).trans (eF.alloc _ _))|exact ow.ex (by assumption) (((eF.alloc _ _).trans (eF.alloc _ _)).trans (eF.drew _))))) _ _ [.int .u32 (gZ name:Nat)] 1 rfl rfl (eQ.rd (eQ.new _ _ _)) (λaz I=>by rw[fF.1 I];rfl) (by simp only[maxLen];omega) (by omega) (eF.size (DB.x (ow.s (by first|assumption|exact ow.ex (by assumption) (eF.alloc _ _)|exact ow.ex (by assumption) (eF.drew _)|exact ow.ex (by assumption) ((eF.alloc _ _).trans (eF.drew _))|exact ow.ex (by assumption) ((eF.alloc _ _).trans (eF.alloc _ _))|exact ow.ex (by assumption) (((eF.alloc _ _).trans (eF.alloc _ _)).trans (eF.drew _)))))) ?_;intro u7 w8 s t J;have K:=ow.S4 (by first|assumption|exact ow.ex (by assumption) (eF.alloc _ _)|exact ow.ex (by assumption) (eF.drew _)|exact ow.ex (by assumption) ((eF.alloc _ _).trans (eF.drew _))|exact ow.ex (by assumption) ((eF.alloc _ _).trans (eF.alloc _ _))|exact ow.ex (by assumption) (((eF.alloc _ _).trans (eF.alloc _ _)).trans (eF.drew _))) s t;have n7:=eQ.cell (ow.b K) 0 rfl;clear s t J))
    all_goals
     go_wp2;go_roundw
     case rel=>exact⟨b+1,_,_,by omega,rfl,rfl,by go_num,ay _ _ _ _ _ (by assumption)⟩
     case measure=>simp[intOf];omega
  ·have aA:b=a.length:=by omega
   subst aA;obtain⟨A1,c1,rfl⟩:=eR g.i;obtain⟨A2,c2,rfl⟩:=eR g.h;go_wp2;exact iA (v:=ij #[.slice A1 (lJ a a).length c1,.slice A2 (lJ a a).length c2]) (by simp[results,results156,go_sem]) rfl ⟨A1,c1,A2,c2,rfl,g⟩
end
section
open Go.RowKit
def ir(w:eI)(elem:ik)(size n:Nat)(news:fY)(e:Ending)(w':eI):Prop:=∃v',e=fH v'/\w'.ownsRow w elem size v' n news/\eF w w'
theorem sz(a:eI)(e:ik)(size:Nat):(a.alloc (eN #[] e)).ownsRow a e size (fN a 0 0) 0 []:=
 ⟨by simp,.inr ⟨a.heap.size,0,#[],rfl,fJ _,Hw a _,fJ _,by unfold maxLen;omega,by simp,by simp⟩⟩
theorem ir.app(a:eI)(e:ik)(size d:Nat)(f:fY)(b:eS)(c:eI)(g:c.ownsRow a e size b d f)(i:(a.alloc (eN #[] e)).grownBy c (some a)):ir a e size d f (fH b) c:=
 ⟨b,rfl,g,(fi.grown i).ext (eF.alloc _ _)⟩
theorem ir.nil(w:eI)(e:ik)(size:Nat):ir w e size 0 [] (fH (eW)) w:=⟨_,rfl,⟨by simp,.inl ⟨rfl,rfl⟩⟩,eF.refl w⟩
theorem pE:(prog.info? 5).map (λi=>(i.zero,i.size,i.bytes))=some (some (.int .u8 0),1,1):=by kernel_rfl
theorem DE(d:fE)(b f:Nat)(c:fY)(a:eI)(g:d=none->b=0)(i:c.length=b*1)(j:Rd a d c)(k:∀n∈c,n.oneCell'=true)(B:b*1<=140737488355328):
 Calls prog 137 #[.slice d b f] a (ir a 5 1 b c):=by
 obtain⟨o,p,r,s,t⟩:=info_parts pE;have u:=eD k;have v:=eD j;have l:=eD i;clear k j i;cases d with
 |none=>
  obtain rfl:=g rfl;obtain rfl:c=[]:=Gc (by have:=l.out;omega);clear g;have w:=λa:eI=>Lib.run_eql_slice_nil (P:=prog) a 61 5 none 0 f 0 0 underlying61;go_in;go_wp
  go_ret;exact ir.nil a _ _
 |some m=>
  clear g;have w:=λa:eI=>Lib.run_eql_slice_nil (P:=prog) a 61 5 (some m) b f 0 0 underlying61;go_in;go_wp2_with (at_builtin;go_loud(refine fB rfl _ _ 61 rfl a 5 o _ 1 1 underlying61 p r s t rfl (by omega) _ 0 [] rfl (sz _ _ _) (some m) f c b rfl l (oP.rd v) u (by unfold maxLen;omega) (by omega) (by simp) ?_))
  intro x y z A _;go_wp
  go_ret;exact ir.app a _ _ _ _ x y (by simpa using z) A
theorem sY:(prog.info? 157).map (λa=>(a.zero,a.size,a.bytes))=some (some (.agg #[.int .i64 0,.int .i64 0,.int .i64 0,.slice none 0 0]),4,48):=by kernel_rfl
theorem ME(d:fE)(b f:Nat)(c:fY)(a:eI)(g:d=none->b=0)(i:c.length=b*4)(j:Rd a d c)(k:∀n∈c,n.oneCell'=true)(B:b*48<=140737488355328):
 Calls prog 132 #[.slice d b f] a (ir a 157 4 b c):=by
 obtain⟨o,p,r,s,t⟩:=info_parts sY;have u:=eD k;have v:=eD j;have l:=eD i;clear k j i;cases d with
 |none=>
  obtain rfl:=g rfl;obtain rfl:c=[]:=Gc (by have:=l.out;omega);clear g;have w:=λa:eI=>Lib.run_eql_slice_nil (P:=prog) a 150 157 none 0 f 0 0 underlying150;go_in;go_wp
  go_ret;exact ir.nil a _ _
 |some m=>
  clear g;have w:=λa:eI=>Lib.run_eql_slice_nil (P:=prog) a 150 157 (some m) b f 0 0 underlying150;go_in;go_wp2_with (at_builtin;go_loud(refine fB rfl _ _ 150 rfl a 157 o _ 4 48 underlying150 p r s t rfl (by omega) _ 0 [] rfl (sz _ _ _) (some m) f c b rfl l (oP.rd v) u (by unfold maxLen;omega) (by omega) (by simp) ?_))
  intro x y z A _;go_wp
  go_ret;exact ir.app a _ _ _ _ x y (by simpa using z) A
theorem lr:(prog.info? 3).map (λi=>(i.zero,i.size,i.bytes))=some (some (.int .i64 0),1,8):=by kernel_rfl
theorem lE(A:fE)(n c:Nat)(a:fY)(w:eI)(b:A=none->n=0)(d:a.length=n*1)(f:Rd w A a)(g:∀u∈a,u.oneCell'=true)(B:n*8<=140737488355328):
 Calls prog 48 #[.slice A n c] w (ir w 3 1 n a):=by
 obtain⟨k,l,m,o,p⟩:=info_parts lr;have r:=eD g;have s:=eD f;have i:=eD d;clear g f d;cases A with
 |none=>
  obtain rfl:=b rfl;obtain rfl:a=[]:=Gc (by have:=i.out;omega);clear b;have t:=λw:eI=>Lib.run_eql_slice_nil (P:=prog) w 23 3 none 0 c 0 0 underlying23;go_in;go_wp
  go_ret;exact ir.nil w _ _
 |some j=>
  clear b;have t:=λw:eI=>Lib.run_eql_slice_nil (P:=prog) w 23 3 (some j) n c 0 0 underlying23;go_in;go_wp2_with (at_builtin;go_loud(refine fB rfl _ _ 23 rfl w 3 k _ 1 8 underlying23 l m o p rfl (by omega) _ 0 [] rfl (sz _ _ _) (some j) c a n rfl i (oP.rd s) r (by unfold maxLen;omega) (by omega) (by simp) ?_))
  intro v x y z _;go_wp
  go_ret;exact ir.app w _ _ _ _ v x (by simpa using y) z
theorem wY:(prog.info? 4).map (λa=>(a.zero,a.size,a.bytes))=some (some (.bool false),1,1):=by kernel_rfl
theorem Gd(d:fE)(b f:Nat)(c:fY)(a:eI)(g:d=none->b=0)(i:c.length=b*1)(j:Rd a d c)(k:∀n∈c,n.oneCell'=true)(B:b*1<=140737488355328):
 Calls prog 140 #[.slice d b f] a (ir a 4 1 b c):=by
 obtain⟨o,p,r,s,t⟩:=info_parts wY;have u:=eD k;have v:=eD j;have l:=eD i;clear k j i;cases d with
 |none=>
  obtain rfl:=g rfl;obtain rfl:c=[]:=Gc (by have:=l.out;omega);clear g;have w:=λa:eI=>Lib.run_eql_slice_nil (P:=prog) a 175 4 none 0 f 0 0 underlying175;go_in;go_wp
  go_ret;exact ir.nil a _ _
 |some m=>
  clear g;have w:=λa:eI=>Lib.run_eql_slice_nil (P:=prog) a 175 4 (some m) b f 0 0 underlying175;go_in;go_wp2_with (at_builtin;go_loud(refine fB rfl _ _ 175 rfl a 4 o _ 1 1 underlying175 p r s t rfl (by omega) _ 0 [] rfl (sz _ _ _) (some m) f c b rfl l (oP.rd v) u (by unfold maxLen;omega) (by omega) (by simp) ?_))
  intro x y z A _;go_wp
  go_ret;exact ir.app a _ _ _ _ x y (by simpa using z) A
end
def Rg.ka(r:Rg):Int:=r.at_+r.bs.length
structure sB(rs:List Rg):Prop where
 pw:rs.Pairwise λr q=>r.ka<=q.at_
 ok:∀r∈rs,4096<=r.at_/\r.at_%64=0/\0<r.bs.length/\r.bs.length%64=0
def i'(g:Int)(rs:List Rg):Nat:=(rs.takeWhile λr=>decide (r.at_<g)).length
theorem pY(h':Int)(l:0<h'):∀(a:List Rg) (b:Int),a.Pairwise (λr q=>r.ka<=q.at_)->(∀r∈a,b<=r.at_/\r.at_%64=0/\0<r.bs.length/\r.bs.length%64=0)->b%64=0->
 b<=iq h' a b/\iq h' a b%64=0/\i' (iq h' a b) a<=a.length/\(∀r∈a.take (i' (iq h' a b) a),r.ka<=iq h' a b)/\(∀r∈a.drop (i' (iq h' a b) a),iq h' a b+h'<=r.at_)
 |[],b,_,_,d=>by simp[iq,i',d]
 |r::a,b,m,i,d=>by
  have x:=i r (gM ..)
  obtain⟨j,n⟩:=rD.1 m
  unfold iq
  by_cases k:h'<=r.at_- b
  ·rw[fW k]
   have f:i' b (r::a)=0:=by
    unfold i';rw[MM (by simp;omega)];rfl
   rw[f];refine⟨JC _,d,eX _,by simp,λq c=> ?_⟩;rw[vw] at c;rcases fm.1 c with rfl|c
   ·omega
   ·have:=j q c;unfold Rg.ka at this;omega
  ·rw[fG k];have o:max b (r.at_+r.bs.length)=r.ka:=by unfold Rg.ka;omega
   rw[o];have p:r.ka%64=0:=by unfold Rg.ka;omega
   obtain⟨g,s,t,u,v⟩:=pY h' l a r.ka n (λq c=>⟨j q c,(i q (gD _ c)).2⟩) p;have w:r.at_<iq h' a r.ka:=by unfold Rg.ka at g ⊢;omega
   have f:i' (iq h' a r.ka) (r::a)=i' (iq h' a r.ka) a+1:=by unfold i';rw[MN (by simpa using w)];rfl
   rw[f];refine⟨by unfold Rg.ka at g ⊢;omega,s,by simpa using t,λq c=> ?_,λq c=> ?_⟩
   ·rw[xI] at c;rcases fm.1 c with rfl|c
    ·exact g
    ·exact u q c
   ·rw[MB] at c;exact v q c
theorem Gg:∀(c:List Rg) (b:Int),c.Pairwise (λa q=>a.ka<=q.at_)->(∀a∈c,b<=a.at_/\a.at_%64=0/\0<a.bs.length/\a.bs.length%64=0)->b%64=0->
 iq 64 c b<=b+((c.map λa=>a.bs.length).sum:Nat)
 |[],b,_,_,i=>by simp[iq]
 |a::c,b,j,d,i=>by
  have n:=d a (gM ..);obtain⟨k,l⟩:=rD.1 j;unfold iq;by_cases f:64<=a.at_- b
  ·rw[fW f];omega
  ·rw[fG f];have m:max b (a.at_+a.bs.length)=a.ka:=by unfold Rg.ka;omega
   rw[m];have:=Gg c a.ka l (λq g=>⟨k q g,(d q (gD _ g)).2⟩) (by unfold Rg.ka;omega);simp only[hU,DK];unfold Rg.ka at this ⊢;omega
theorem sB.Vp{b:List Rg}(h:sB b){g h':Int}(j:g=iq h' b 4096)(k:0<h')(v:h'%64=0){r:Rg}(l:r.at_=g)(w:(r.bs.length:Int)=h'):sB (b.take (i' g b)++r::b.drop (i' g b)):=by
 obtain⟨m,n,o,d,f⟩:=pY h' k b 4096 h.pw (λq a=>h.ok q a) (by decide);rw[<-j] at m n o d f;have i:=h.pw;rw[<-oa (i' g b) b,yg] at i;obtain⟨p,s,t⟩:=i;refine⟨yg.2 ⟨p,rD.2 ⟨λq a=> ?_,s⟩,λq a u c=> ?_⟩,λq a=> ?_⟩
 ·have:=f q a;unfold Rg.ka;omega
 ·rcases fm.1 c with rfl|c
  ·rw[l];exact d q a
  ·exact t q a u c
 ·rcases gu.1 a with a|a
  ·exact h.ok q (qT a)
  ·rcases fm.1 a with rfl|a
   ·omega
   ·exact h.ok q (qV a)
theorem QC(a:List Rg)(r:Rg)(b:Nat):((a.take b++r::a.drop b).map λr=>r.bs.length).sum=r.bs.length+(a.map λr=>r.bs.length).sum:=by have h:=congrArg (λc:List Rg=>(c.map λr=>r.bs.length).sum) (oa b a);simp only[iC,MO,hU,DK] at h ⊢;omega
section
open Go.RowKit Pl
def gC(s:jw):gh:=s.data.toList
theorem rF(a:eI)(b:jw):∃g c,(convert 9 61 (eV b)).run prog a=.ok (fN a b.size g) c/\eF a c/\c.heap.size=a.heap.size+1/\Rd c (some (eJ a 0)) (jl (gC b)):=by
 refine⟨_,_,Lib.run_convert_string_bytes a _ _ 5 b underlying9 underlying61 underlying5, ?_,Lib.bytesWorld_size _ _ _, ?_⟩
 ·exact eF.of ⟨rfl,rfl,rfl,by rw[Lib.bytesWorld_size];omega,λi j=>Lib.bytesWorld_at_old a _ b i j⟩
 ·intro d k;have f:d<b.size:=by simpa[jl,gC] using k
  refine⟨a,0,rfl, ?_⟩;rw[lH,Lib.bytesWorld_cell a 5 b d f];simp[jl,gC,List.getD,f]
theorem tG(b:eI)(d:fE)(f:Nat)(a:gh)(h:Rd b d (jl a)):(convert 61 9 (.slice d a f)).run prog b=.ok (eV ⟨a.toArray⟩) b:=by
 cases g:a with
 |nil=>
  rw[run_convert_bytes_string b _ _ 5 d _ f underlying61 underlying5 underlying9];cases d with
  |none=>simp[Conv.bytesToString];rfl
  |some i=>have l:=DF (P:=prog) b i [] (λt u m=>by simp at m);have:=run_bytesToString (P:=prog) b i 0 f [] l;exact this
 |cons c v=>
  obtain⟨n,o,rfl,_⟩:=h 0 (by rw[g];simp[jl]);have:=run_convert_bytes_arg (P:=prog) b 61 5 underlying61 underlying5 n o a f (a.map λc=>(c.toNat:Int)) (by simp) (λp j=>by obtain⟨w,x,k,r⟩:=h p (by simpa[jl] using j);simp only[fd,ny,gP] at k;obtain⟨rfl,rfl⟩:=k;rw[r];simp[jl,List.getD,j]) 9 underlying9
  rw[<-g,this];have:strOfNums (a.map λc=>(c.toNat:Int))=⟨a.toArray⟩:=by
   unfold strOfNums;congr 2
   rw[jL];have:(λs:Int=>UInt8.ofNat s.toNat)∘(λc:UInt8=>(c.toNat:Int))=id:=by
    funext c
    simp
   rw[this,Ig]
  rw[this]
end
section
open Go.RowKit Go.Maps
section
def rV(v:eS):Option (DataW eS×List MemPlace):=some (.held v,[])
def At(D:DataW eS)(k:Lit)(v:eS):Prop:=Maps.has D k=true/\∀z,D.atKey k z=.held v
def No(D:DataW eS)(k:Lit):Prop:=Maps.has D k=false
theorem At.put{D:DataW eS}(h:IsMap D){k:Lit}(a:WideAt.IsKeyLit k)(v:eS):At (D.put k (.held v)) k v:=⟨has_put_same h a _,λb=>atKey_put_same h a _ b⟩
theorem At.other{D:DataW eS}{k a:Lit}(h:At D a x)(b:a≠k)(c:eS):At (D.put k (.held c)) a x:=⟨by rw[has_put_other b];exact h.1,λd=>by rw[atKey_put_other b];exact h.2 d⟩
theorem No.other{D:DataW eS}{k a:Lit}(h:No D a)(b:a≠k)(c:eS):No (D.put k (.held c)) a:=by unfold No;rw[has_put_other b];exact h
theorem At.del{b a:Lit}{v:eS}(h:At kK a v)(c:a≠b):At (kK.del b) a v:=⟨by rw[has_del_other c];exact h.1,λd=>by rw[atKey_del_other c];exact h.2 d⟩
section
variable {P:Program} {w:eI} {k e t:ik} {b n:Nat} {D:DataW eS}
theorem sE(h:w.ownsMap P k rV b n D)(f:Keyed P k)(g:P.underlying t=some (.map k e)){a:eS}(i:(zeroValue e).run P w=.ok a w){key v:eS}{kl:Lit}(j:keyOf P k key=some kl)(l:At D kl v):
 (Instr.lookup t (.map (some b)) key true).run P w=.ok (ij #[v,fz true]) w/\(Instr.lookup t (.map (some b)) key false).run P w=.ok v w:=by obtain⟨p,r,m,c⟩:=h.look_ok f g i (zd:=.held a) (zp:=[]) rfl j;obtain⟨s,u,o,d⟩:=h.lookup f g i (zd:=.held a) (zp:=[]) rfl j;rw[l.2] at c d;simp only[rV,fd,rH,S9] at c d;rw[m,o,c.1,d.1,l.1];exact⟨rfl,rfl⟩
theorem uz(h:w.ownsMap P k rV b n D)(f:Keyed P k)(g:P.underlying t=some (.map k e)){a:eS}(i:(zeroValue e).run P w=.ok a w){key:eS}{kl:Lit}(j:keyOf P k key=some kl)(l:No D kl):
 (Instr.lookup t (.map (some b)) key true).run P w=.ok (ij #[a,fz false]) w/\(Instr.lookup t (.map (some b)) key false).run P w=.ok a w:=by obtain⟨s,u,m,c⟩:=h.look_ok f g i (zd:=.held a) (zp:=[]) rfl j;obtain⟨v,x,o,d⟩:=h.lookup f g i (zd:=.held a) (zp:=[]) rfl j;have p:=atKey_of_not_has (D:=D) (k:=kl) l (.held a);rw[p] at c d;simp only[rV,fd,rH,S9] at c d;have r:Maps.has D kl=false:=l;rw[m,o,c.1,d.1,r];exact⟨rfl,rfl⟩
end
theorem CH.mM{B:Nat}{L:mB}(b:w.grownBy v (some n))(c:B<=n)(d:n∈r):CH B L r w v:=
 fi.mono (fi.grown b) λf a=>by simp only[fd] at a;subst a;exact⟨c,.inr d⟩
end
end
section
open Go.RowKit Pl
structure vD(w0 w:eI)(g c:Nat)(bs:List Bk):Prop where
 row:w.ownsRow w0.heap.size 23 1 (.slice (some ⟨g,0,none⟩) bs.length c) bs.length (bs.map Bk.cell)
 each:∀(j:Nat) k,bs[j]? =some k->w.ownsRow w0.heap.size 3 1 k.cell k.is.length (ints k.is)
 apart:∀(i j:Nat) a b,bs[i]? =some a->bs[j]? =some b->i≠j->a.cell.ownBlock=none\/a.cell.ownBlock≠b.cell.ownBlock
 x:eF w0 w
theorem vD.ex{w:eI}{g c:Nat}{b:List Bk}(h:vD v w g c b)(a:eF w u):vD v u g c b:=
 ⟨a.own h.row,λd f i=>a.own (h.each d f i),h.apart,h.x.trans a⟩
theorem vD.up{g c:Nat}{b:List Bk}(h:vD v u g c b)(a:eF w v):vD w u g c b:=
 ⟨fq h.row a.size,λd f i=>fq (h.each d f i) a.size,h.apart,a.trans h.x⟩
theorem vD.put{w:eI}{g c j:Nat}{bs:List Bk}(h:vD v w g c bs){k:Bk}(i:bs[j]? =some k){b:Bk}{x:Int}(G:b.is=k.is++[x])(H:u.ownsRow v.heap.size 3 1 b.cell (k.is.length+1) (ints k.is++[.int .i64 x]))(y:w.grownBy u k.cell.ownBlock)(B:b.cell.ownBlock=k.cell.ownBlock\/b.cell.ownBlock=some w.heap.size):
 u.cell? ⟨g,j,none⟩=some k.cell/\u.frozen? ⟨g,j,none⟩=false/\vD v (u.setCell ⟨g,j,none⟩ b.cell) g c (bs.set j b):=by
 have z:=(jS.1 i).1;have N:bs[j]=k:=(jS.1 i).2;have C:=h.each j k i;have o:=h.row.kept y (kQ h.row C (by decide));have I:=(fi.grown y).ext h.x (λp d=>(C.lt p d.symm).1);have J:=h.row.lt g rfl;have D:u.ownsRow v 3 1 b.cell b.is (ints b.is):=by rw[G,fT,wF];exact H
 refine⟨?_,o.frozenAt j, ?_, ?_, ?_, ?_⟩
 ·rw[o.cellAt j (by omega),vy,i];rfl
 ·have:=(o.stored j b.cell).1;rw[nZ,qQ];exact this
 ·intro f l a;by_cases m:f=j
  ·subst m;rw[xX z] at a;simp only[fd] at a;subst a;refine ownsRow_setCell_other D (λe=> ?_) _;rcases kQ D o (by decide) with n|n
   ·rw[n] at e;cases e
   ·exact n e
  ·rw[ur (nW m)] at a;have K:=h.each f l a;have n:=K.kept y (h.apart f j l k a i m);refine ownsRow_setCell_other n (λe=> ?_) _;rcases kQ n o (by decide) with A|A
   ·rw[A] at e;cases e
   ·exact A e
 ·intro f r l p a d s;have E:∀(q:Nat) (t:Bk),bs[q]? =some t->t.cell.ownBlock≠some w.heap.size:=λq t L e=>by have:=((h.each q t L).lt _ e).2;omega
  by_cases m:f=j
  ·subst m;rw[xX z] at a;simp only[fd] at a;subst a;rw[ur s] at d;rcases B with e|e
   ·rw[e];exact h.apart f r k p i d s
   ·right;rw[e];exact λM=>E r p d M.symm
  ·rw[ur (nW m)] at a;by_cases F:r=j
   ·subst F;rw[xX z] at d;simp only[fd] at d;subst d;rcases B with e|e
    ·rw[e];exact h.apart f r l k a i s
    ·right;rw[e];exact E f l a
   ·rw[ur (nW F)] at d;exact h.apart f r l p a d s
 ·exact eF.of (I.below.setCell J.1 _)
theorem tf{c:Type}{a b:c}(h:(List.replicate n a)[k]? =some b):b=a:=by
 rw[S8] at h;split at h
 ·simpa using h.symm
 ·cases h
theorem vD.Ut(h:v.ownsRow w 23 1 (fN n k k) k (List.replicate k (eW)))(a:eF w v):vD w v n k (List.replicate k Dq):=by
 refine⟨?_,λb f c=> ?_,λg b i j d l m=> ?_,a⟩
 ·rw[D8,List.map_replicate];exact h
 ·rw[tf c];exact ji _ _ _ _
 ·rw[tf d];exact .inl rfl
theorem Iq{e:ik}(h:w.ownsRow n e 1 x k l)(a:eQ w m 170 kJ)(b:e≠170):some m≠x.ownBlock:=by
 rcases h.2 with⟨rfl,_⟩|⟨c,d,f,rfl,_⟩
 ·simp[Value.ownBlock]
 ·have:=vk h a b;simpa[Value.ownBlock] using this
theorem vD.VG{wc:eI}{d:List Bk}{a k':Bk}(f:eF u wc)(h:vD w u n k d)(o:eQ u i 170 kJ)(g:d[m]? =some a)(r:k'.is=a.is++[D])(s:W.ownsRow w.heap.size 3 1 k'.cell (a.is.length+1) (ints a.is++[.int .i64 D]))(j:wc.grownBy W a.cell.ownBlock)(t:k'.cell.ownBlock=a.cell.ownBlock\/k'.cell.ownBlock=some wc.heap.size):
 W.cell? ⟨n,m,none⟩=some a.cell/\W.frozen? ⟨n,m,none⟩=false/\(∀(c:Nat) (v:eS),kJ[c]? =some v->W.cell? ⟨i,c,none⟩=some v)/\
   Hid (vD w (W.setCell ⟨n,m,none⟩ k'.cell) n k (d.set m k')/\eQ (W.setCell ⟨n,m,none⟩ k'.cell) i 170 kJ):=by have b:=h.ex f;have l:=(f.eH o).grown j (Iq (b.each m a g) (f.eH o) (by decide));obtain⟨x,y,z⟩:=b.put g r s j t;refine⟨x,y,λc v A=>l.cell c A,eD ⟨z, ?_⟩⟩;refine l.ub (p:=(eJ n m)) ?_ _;intro e;have B:=b.row.kept j (kQ b.row (b.each m a g) (by decide));have:=Iq B l (by decide);exact this (by simp[Value.ownBlock];exact e)
theorem vD.Gt{i:Nat}{b:List Bk}(h:vD w v n k b)(c:eQ v m 170 kJ)(d:w.heap.size<=m)(a:eS):vD w (v.setCell (eJ m i) a) n k b:=
 ⟨il h.row c (by decide) a,λf g j=>il (h.each f g j) c (by decide) a,h.apart,eF.of (h.x.below.setCell d a)⟩
theorem Bd(size:Int)(a:eI):Calls prog 170 #[eE size] a λe g=>e=fH (fz (iS size))/\a=g:=by
 cases h:iS size
 ·obtain⟨b,c,d,f⟩:=F4 h;have i:(size==1)=false:=by simp[b]
  have j:(size==2)=false:=by simp[c]
  have k:(size==4)=false:=by simp[d]
  have l:(size==8)=false:=by simp[f]
  clear h b c d f;go_in;go_wp2;go_ret;exact⟨rfl,rfl⟩
 ·rcases jB h with rfl|rfl|rfl|rfl;all_goals
   clear h;go_in;go_wp2;go_ret;exact⟨rfl,rfl⟩
theorem Cr(a b:Int)(d:0<b)(f:0<=a):(a/b==0)=decide (a<b):=by
 rw[Qw,sT,decide_eq_true_iff];constructor
 ·intro h;rcases Int.lt_or_le a b with c|c
  ·exact c
  ·exfalso;have:1<=a/b:=(Int.le_ediv_iff_mul_le d).2 (by omega);omega
 ·intro h;exact Int.ediv_eq_zero_of_lt f h
theorem Nw(a size:Int)(d:iS size=true)(g:eI):Calls prog 172 #[eE a,eE size] g λe i=>e=fH (fz (iu a size))/\g=i:=by
 rcases jB d with rfl|rfl|rfl|rfl
 ·clear d;by_cases c:0<=a
  ·have f:=eD (Cr a 256 (by omega) c);have b:iu a 1=decide (a<256):=by simp[iu,c]
   rw[b];clear b;go_in;go_wp2;go_ret;exact⟨kj (by show Value.bool (a/256==0)=_;rw[f]),rfl⟩
  ·have b:iu a 1=false:=by simp[iu,c]
   rw[b];clear b;go_in;go_wp2;go_ret;exact⟨rfl,rfl⟩
 ·clear d;by_cases c:0<=a
  ·have f:=eD (Cr a 65536 (by omega) c);have b:iu a 2=decide (a<65536):=by simp[iu,c]
   rw[b];clear b;go_in;go_wp2;go_ret;exact⟨kj (by show Value.bool (a/65536==0)=_;rw[f]),rfl⟩
  ·have b:iu a 2=false:=by simp[iu,c]
   rw[b];clear b;go_in;go_wp2;go_ret;exact⟨rfl,rfl⟩
 ·clear d;by_cases c:0<=a
  ·have f:=eD (Cr a 4294967296 (by omega) c);have b:iu a 4=decide (a<4294967296):=by simp[iu,c]
   rw[b];clear b;go_in;go_wp2;go_ret;exact⟨kj (by show Value.bool (a/4294967296==0)=_;rw[f]),rfl⟩
  ·have b:iu a 4=false:=by simp[iu,c]
   rw[b];clear b;go_in;go_wp2;go_ret;exact⟨rfl,rfl⟩
 ·have b:iu a 8=true:=by simp[iu]
  rw[b];clear b d;go_in;go_wp2;go_ret;exact⟨rfl,rfl⟩
theorem uL(b r:Nat)(i:WS)(j:eS)(e:Int)(c:eI)(h:vu c b i j):
 Calls prog 168 #[fw b,eE e] c λm n=>m=fH (ij #[])/\wE b c j n (iX i e) j:=by
 obtain⟨a,k⟩:=i;have d:=h.eH;simp only at d;have s:=d.ce 0 (eE a);have f0:=d.frozen 0;have f:=eD h;clear h d;by_cases g:a=0
 ·subst g;go_in;go_wp2;go_end0
  exact⟨rfl,⟨⟨f.eH.set 0 _,il f.own f.eH (by decide) _⟩,λ_ h=>.inl h,(fi.set c b 0 _).mono λt o=>.inl o⟩⟩
 ·have u:(a==0)=false:=by simp[g]
  have l:iX (a,k) e=(a,k):=by simp[iX,g]
  have p:=eD l;clear g l;go_in;go_wp2;go_end0
  exact⟨rfl,by rw[p];exact wE.refl f⟩
theorem gX(b:Nat)(c:Int)(a:eI)(h:a.cell? (eJ b 0)=some (eE c)):
 Calls prog 171 #[fw b] a λd f=>d=fH (fz (c==0))/\a=f:=by go_in;go_wp2;go_ret;exact⟨rfl,rfl⟩
theorem zU(a:eI):
 Calls prog 95 #[] a λc b=>c=fH (fw a)/\vu b a (0,[]) (eW)/\eF a b:=by go_in;go_wp2;go_ret;exact⟨rfl,⟨eQ.new _ _ _,ji _ _ _ _⟩,eF.alloc _ _⟩
