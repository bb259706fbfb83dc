/- TopOnce: part 5 of the proof. -/
import Derived.Test.YtoaehdgokeicoaaGreatDoorZ03
set_option maxRecDepth 100000
set_option maxHeartbeats 30000000
set_option linter.all false
namespace Go.Proofs.YtoaehdgokeicoaaGreatDoor
open K9 Z9 Go.Proofs.Tryz
section
open Go.RowKit
theorem DP(a:jw)(b:Int)(c:eI):Calls prog 298 #[eV a,.int .u8 b] c λe d=>e=fH (eE (Lib.indexByte a.data.toList b.toNat.toUInt8))/\c=d:=by
 go_in;go_wp
 rw[run_callFunc_extern func341 (by kernel_rfl) (by kernel_rfl) (by kernel_rfl) (e:=Extern.BytealgIndexByte.indexByte) (by kernel_rfl),Lib.run_indexByteString];simp only[Result.andThen];rw[td];go_wp
 go_ret;exact⟨rfl,rfl⟩
theorem JG(a:jw)(b:Int)(c:eI):Calls prog 227 #[eV a,.int .u8 b] c λe d=>e=fH (eE (Lib.indexByte a.data.toList b.toNat.toUInt8))/\c=d:=by
 go_in;go_wp
 refine(DP _ _ _).mono ?_;rintro e d ⟨rfl,rfl⟩;go_wp2;go_ret;exact⟨rfl,rfl⟩
theorem AK(a:jw)(b:UInt8)(c:eI):Calls prog 305 #[eV a,eV ⟨#[b]⟩] c λe d=>e=fH (eE (Lib.indexByte a.data.toList b))/\c=d:=by
 by_cases h:a.toList=[b]
 ·have f:([b]==a.toList)=true:=by rw[h];exact Dw _
  have g:Hid (Lib.indexByte a.data.toList b=0):=eD (by rw[<-gQ,h];simp[Lib.indexByte]);clear h;go_in;go_wp
  go_ret;exact⟨by rw[g];rfl,rfl⟩
 ·have f:=mn.2 λe=>h e.symm;clear h;go_in;go_wp
  refine(DP _ _ _).mono ?_;rintro e d ⟨rfl,rfl⟩;go_wp2;go_ret;exact⟨by simp;rfl,rfl⟩
theorem DQ(a:jw)(b:UInt8)(c:eI):Calls prog 244 #[eV a,eV ⟨#[b]⟩] c λe d=>e=fH (eE (Lib.indexByte a.data.toList b))/\c=d:=by
 go_in;go_wp
 refine(AK _ _ _).mono ?_;rintro e d ⟨rfl,rfl⟩;go_wp2;go_ret;exact⟨rfl,rfl⟩
theorem oy(a:jw)(b:UInt8)(c:eI):Calls prog 348 #[eV a,eV ⟨#[b]⟩] c λe d=>e=fH (fz (decide (0<=Lib.indexByte a.data.toList b)))/\c=d:=by
 go_in;go_wp
 refine(DQ _ _ _).mono ?_;rintro e d ⟨rfl,rfl⟩;go_wp2;go_ret;exact⟨rfl,rfl⟩
theorem JH(a:jw)(b:UInt8)(c:eI):Calls prog 243 #[eV a,eV ⟨#[b]⟩] c λe d=>e=fH (eE (Lib.countByte a.data.toList b))/\c=d:=by
 go_in;go_wp
 rw[run_callFunc_extern func304 (by kernel_rfl) (by kernel_rfl) (by kernel_rfl) (e:=Extern.BytealgCount.count) (by kernel_rfl),Lib.run_countString];simp only[Result.andThen];rw[td];go_wp
 go_ret;exact⟨rfl,rfl⟩
def fI(p:gh):jw:=⟨p.toArray⟩
def iy(ps:List gh):fY:=ps.map λp=>eV (fI p)
theorem p6(a:jw)(b:gh)(h:a.data.toList=b):a=fI b:=by subst h;cases a;rfl
theorem DR:(prog.info? 9).map (λa=>(a.zero,a.size,a.bytes))=some (some (.string ByteArray.empty),1,16):=by kernel_rfl
theorem JI(k:jw)(b:List gh)(g:eI)(o:k.data.toList=hH b)(A:b≠[])(s:∀d∈b,(47:UInt8)∉d)(H:k.size<=4096):
 Calls prog 173 #[eV k,eV ⟨#[47]⟩,eE 0,eE (-1)] g (ir g 9 1 b (iy b)):=by
 obtain⟨I,J,K,L,M⟩:=info_parts DR;have B:b.length=Lib.countByte k.data.toList 47+1:=by rw[o];exact(yk b A s).symm
 have N:k.size=(hH b).length:=by rw[<-o];simp
 have O:=pZ b;have P:=eD (JH k 47 g);have Q:=eD o;have R:=eD s;clear o s;generalize Lib.countByte k.data.toList 47=c at*;have ak:c<=4096:=by omega
 have al:c+1<=k.size+1:=by omega
 have S:=eD B;clear O N A B;go_in;go_wp
 refine P.mono ?_;rintro e T ⟨rfl,rfl⟩;have U:min ((c:Int)+1) ((k.size:Int)+1)=((c+1:Nat):Int):=by omega
 go_wp2_with (at_make;refine wpList_make_full _ rfl _ _ 47 rfl g 9 I (eV ByteArray.empty) 1 underlying47 J K L .i64 .i64 ((c+1:Nat):Int) ((c+1:Nat):Int) (c+1) rfl rfl rfl rfl ?c1 ?c2 ?c3 ?_)
 case c1=>rw[M];omega
 case c2=>unfold maxLen;omega
 case c3=>simp
 intro V i C;have W:=eD ((fi.grown C).ext (eF.refl g) (λa D=>by cases D));have X:Hid (V.ownsRow g.heap.size 9 1 (.slice (some ⟨g.heap.size,0,none⟩) (c+1) (c+1)) (c+1) (iy (b.take 0)++List.replicate (c+1- 0) (.string ByteArray.empty))):=eD (by rw[wI] at i;simpa[iy] using i)
 clear i C U;have hn:((c+1:Nat):Int)- 1=(c:Int):=by omega
 go_wp
 go_loopw [0,10] (λY t wr=>∃(a:Nat) (f:jw),a<=c/\Y=eV f/\f.size<=4096/\f.data.toList=hH (b.drop a)/\t=eE a/\
  wr.ownsRow g.heap.size 9 1 (.slice (some ⟨g.heap.size,0,none⟩) (c+1) (c+1)) (c+1) (iy (b.take a)++List.replicate (c+1- a) (.string ByteArray.empty))/\eF g wr) (λ_ t _=>c- (intOf t).toNat)
 case atStart=>exact⟨0,k,by omega,rfl,H,by rw[vw];exact Q,rfl,X,W⟩
 case round=>
  obtain⟨a,f,D,rfl,am,j,rfl,i,p⟩:=hrel;have an:=eD i;have Z:=S.out;by_cases ao:a<c
  ·obtain⟨d,q,u,l⟩:∃d q u,b.drop a=d::q::u:=by have v:b.drop a=b[a]::b.drop (a+1):=sN (by omega);have h2:b.drop (a+1)=b[a+1]::b.drop (a+1+1):=sN (by omega);exact⟨_,_,_,by rw[v,h2]⟩
   have E:=R d (qV (by rw[l];simp));rw[l] at j;simp only[hH] at j;have F:Lib.indexByte f.data.toList 47=d.length:=by rw[j];exact Cc d _ 47 E
   have r:=DQ f 47 wr;rw[F] at r;have r:=eD r;have ap:d.length+1<=f.size:=by have:=congrArg List.length j;simp at this;omega
   have w:=i.cellAt a (by omega);have ad:=i.frozenAt a;have m:(iy (b.take a)).length=a:=by simp[iy];omega
   rw[qq (by omega),m,qW,Un (by omega)] at w;have x:f.extract 0 d.length=fI d:=p6 _ _ (by rw[Lib.extract_data,j];simp);have G:(f.extract (d.length+1) f.size).data.toList=hH (b.drop (a+1)):=by
    have h3:b.drop (a+1)=q::u:=by rw[<-QE,l];rfl
    rw[h3,Lib.extract_to_end,j];simp
   have ae:Hid ((wr.setCell ⟨g.heap.size,a,none⟩ (.string (f.extract 0 d.length))).ownsRow g.heap.size 9 1 (.slice (some ⟨g.heap.size,0,none⟩) (c+1) (c+1)) (c+1) (iy (b.take (a+1))++List.replicate (c+1- (a+1)) (.string ByteArray.empty))):=eD (by
    have n:=(i.stored a (eV (f.extract 0 d))).1;have y:b.take (a+1)=b.take a++[d]:=by
     have z:b[a]? =some d:=by have:=congrArg (λaf:List gh=>af[0]?) l;simpa using this
     obtain⟨h7,h8⟩:=jS.1 z;rw[iz h7,h8]
    rw[yj _ _ (by omega),m,qW,x] at n;rw[show c+1- a=(c+1- (a+1))+1 by omega,List.replicate_succ,AJ] at n;rw[y,x];simpa[iy] using n)
   have ag:Hid (eF g (wr.setCell (eJ g a) (eV (f.extract 0 d)))):=eD (eF.of (p.below.setCell (fJ _) _));have ah:=eD G;have ai:(f.extract (d.length+1) f.size).size<=4096:=by simp;omega
   clear i p j F E x G m l;go_wp
   refine r.mono ?_;rintro e T ⟨rfl,rfl⟩;go_wp2;go_roundw
   case rel=>exact⟨a+1,_,by omega,rfl,ai,ah,by go_num,ae,ag⟩
   case measure=>simp[intOf];omega
  ·obtain rfl:a=c:=by omega
   obtain⟨d,l⟩:∃d,b.drop a=[d]:=by have v:b.drop a=b[a]::b.drop (a+1):=sN (by omega);exact⟨b[a],by rw[v,tC (by omega)]⟩
   rw[l] at j;simp only[hH] at j;have w:=i.cellAt a (by omega);have ad:=i.frozenAt a;have m:(iy (b.take a)).length=a:=by simp[iy];omega
   rw[qq (by omega),m,qW,Un (by omega)] at w;have aj:Hid (ir g 9 1 b (iy b) (fH (fN g (a+1) (a+1))) (wr.setCell (eJ g a) (eV f))):=eD ⟨_,rfl,by
    have n:=(i.stored a (eV f)).1;rw[yj _ _ (by omega),m,qW,p6 f d j] at n;have y:b=b.take a++[d]:=by rw[<-l,oa]
    have z:iy b=iy (b.take a)++[.string (fI d)]:=by
     conv=>lhs;rw[y]
     simp[iy]
    rw[z,Z,p6 f d j];simpa using n,eF.of (p.below.setCell (fJ _) _)⟩
   clear i p j m l;go_wp
   go_ret;exact aj
theorem Gl(b:jw)(a:List gh)(c:eI)(f:b.data.toList=hH a)(g:a≠[])(i:∀l∈a,(47:UInt8)∉l)(m:b.size<=4096):
 Calls prog 101 #[eV b,eV ⟨#[47]⟩] c (ir c 9 1 a (iy a)):=by
 have n:=eD (JI b a c f g i m);clear f g i;go_in;go_wp
 refine n.mono ?_;rintro e o ⟨j,rfl,d,k⟩;have p:Hid (ir c 9 1 a (iy a) (fH j) o):=eD ⟨j,rfl,d,k⟩;obtain⟨r,s,rfl⟩:=eR d;clear d k;go_wp2;go_ret;exact p
end
section
variable{w v u:eI}{n k m i j p b c d g N B K G M:Nat}{x y z:eS}{D E F:Int}{A C H I:fE}{l L J:fY}{r s t R:fe}{f:ik}{a:Act}{O P Q:List Oper}{kE:Oper}{kG:Array Oper}{kH:Program}{kR:gh}{kT:jw}
section
open Go.RowKit
section
structure OR(w0 w:eI)(e:ik)(size:Nat)(v:eS)(n:Nat)(xs:fY):Prop where
 own:w.ownsRow w0 e size v n xs
 ext:eF w0 w
section
variable {w0 w w':eI} {e:ik} {size n:Nat} {v:eS} {xs:fY}
theorem OR.nil(h:eF w0 w)(e:ik)(size:Nat):OR w0 w e size (eW) 0 []:=⟨⟨by simp,.inl ⟨rfl,rfl⟩⟩,h⟩
theorem OR.to(h:OR w0 w e size v n xs)(a:eF w w'):OR w0 w' e size v n xs:=⟨a.own h.own,h.ext.trans a⟩
theorem OR.rd{A:fE}{c m:Nat}(h:OR w0 w e size (.slice A m c) n xs)(a:size=1):Rd w A xs:=by
 subst a;obtain⟨g,i,b⟩:=eR h.own;have d:=h.own;injection b with _ f _
 subst f;exact Rd.fC d
theorem OR.mb(h:OR w0 w e size v n xs):∃A c,v=.slice A n c:=eR h.own
end
theorem ip(a:eI)(b:kx)(c:ik):Rd (a.alloc (eN b c)) (some (eJ a 0)) b.toList:=λd f=>⟨_,_,rfl,by rw[lH];exact Df a b c d (by simp)⟩
theorem nr{rest:List Oper}{r:Exit->Act->eI->Prop}(u:kE.guard=none)(l m:Operand)(k:ik)(x:kE.op=.call {callee:=.builtin .append,args:=#[l,m],argTypes:=#[k,k]})(e:ik)(d:TypeInfo)(n:eS)(size bytes:Nat)(y:kH.underlying k=some (.slice e))(z:kH.info? e=some d)(A:d.zero=some n)(B:d.size=size)(C:d.bytes=bytes)(D:n.cells.size=size)(E:0<size){f:eS}{g:Nat}{o:fY}(h:OR w v e size f g o)(F:a.eval l=f)(p:fE)(s:Nat)(i:fY)(b:Nat)(G:a.eval m=.slice p b s)(H:i.length=b*size)(I:Rd v p i)(J:∀K∈i,K.oneCell'=true)(L:g+b<=maxLen)(M:(g+b)*bytes<=140737488355328)(N:∀c j,OR w j e size c (g+b) (o++i)->v.grownBy j f.ownBlock->(c.ownBlock=f.ownBlock\/c.ownBlock=some v.heap.size)->wpList kH kG r rest (a.put kE.dst c) j):wpList kH kG r (kE::rest) a v:=
 fB u l m k x w.heap.size e d n size bytes y z A B C D E f g o F h.own p s i b G H I J L M h.ext.size λc j O t P=>
  N c j ⟨O,(fi.grown t).ext h.ext λQ R=>(h.own.lt Q R.symm).1⟩ t P
theorem Cd:(prog.info? 9).map (λa=>(a.zero,a.size,a.bytes))=some (some (.string ByteArray.empty),1,16):=by kernel_rfl
theorem QI{rest:List Oper}{m:Exit->Act->eI->Prop}(p:kE.guard=none)(g i:Operand)(r:kE.op=.call {callee:=.builtin .append,args:=#[g,i],argTypes:=#[47,47]}){d:eS}{j:Nat}{n:fY}(h:OR w v 9 1 d j n)(s:a.eval g=d)(k:fE)(o:Nat)(b:fY)(c:Nat)(t:a.eval i=.slice k c o)(u:b.length=c*1)(x:Rd v k b)(y:∀z∈b,z.oneCell'=true)(G:j+c<=1000000)(A:∀f l,OR w l 9 1 f (j+c) (n++b)->v.grownBy l d.ownBlock->(f.ownBlock=d.ownBlock\/f.ownBlock=some v.heap.size)->wpList prog kG m rest (a.put kE.dst f) l):wpList prog kG m (kE::rest) a v:=by obtain⟨B,C,D,E,F⟩:=info_parts Cd;exact nr p g i 47 r 9 B _ 1 16 underlying47 C D E F rfl (by omega) h s k o b c t u x y (by unfold maxLen;omega) (by omega) A
theorem DS{rest:List Oper}{k:Exit->Act->eI->Prop}(m:kE.guard=none)(g i:Operand)(n:kE.op=.call {callee:=.builtin .append,args:=#[g,i],argTypes:=#[47,47]}){f:eS}{j:Nat}{l:fY}(h:OR w v 9 1 f j l)(o:a.eval g=f)(b:kx)(p:a.eval i=fN v 1 1)(r:b.size=1)(s:∀t∈b.toList,t.oneCell'=true)(A:j<1000000)(u:∀c d,OR w d 9 1 c (j+1) (l++b.toList)->(v.alloc (eN b 9)).grownBy d f.ownBlock->(c.ownBlock=f.ownBlock\/c.ownBlock=some (v.heap.size+1))->wpList prog kG k rest (a.put kE.dst c) d):wpList prog kG k (kE::rest) a (v.alloc (eN b 9)):=
 QI m g i n (h.to (eF.alloc _ _)) o _ 1 b.toList 1 p (by simpa using r) (ip v b _) s (by omega) λc d x y z=>u c d x y (by simpa using z)
theorem Ce:(prog.info? 3).map (λa=>(a.zero,a.size,a.bytes))=some (some (.int .i64 0),1,8):=by kernel_rfl
theorem lZ{rest:List Oper}{l:Exit->Act->eI->Prop}(o:kE.guard=none)(g i:Operand)(p:kE.op=.call {callee:=.builtin .append,args:=#[g,i],argTypes:=#[23,23]}){d:eS}{j:Nat}{m:fY}(h:OR w v 3 1 d j m)(r:a.eval g=d)(A:fE)(n:Nat)(b:fY)(c:Nat)(s:a.eval i=.slice A c n)(t:b.length=c*1)(u:Rd v A b)(x:∀y∈b,y.oneCell'=true)(G:j+c<=1000000)(z:∀f k,OR w k 3 1 f (j+c) (m++b)->v.grownBy k d.ownBlock->(f.ownBlock=d.ownBlock\/f.ownBlock=some v.heap.size)->wpList prog kG l rest (a.put kE.dst f) k):wpList prog kG l (kE::rest) a v:=by obtain⟨B,C,D,E,F⟩:=info_parts Ce;exact nr o g i 23 p 3 B _ 1 8 underlying23 C D E F rfl (by omega) h r A n b c s t u x (by unfold maxLen;omega) (by omega) z
theorem MQ{rest:List Oper}{k:Exit->Act->eI->Prop}(m:kE.guard=none)(g i:Operand)(n:kE.op=.call {callee:=.builtin .append,args:=#[g,i],argTypes:=#[23,23]}){f:eS}{j:Nat}{l:fY}(h:OR w v 3 1 f j l)(o:a.eval g=f)(b:kx)(p:a.eval i=fN v 1 1)(r:b.size=1)(s:∀t∈b.toList,t.oneCell'=true)(A:j<1000000)(u:∀c d,OR w d 3 1 c (j+1) (l++b.toList)->(v.alloc (eN b 3)).grownBy d f.ownBlock->(c.ownBlock=f.ownBlock\/c.ownBlock=some (v.heap.size+1))->wpList prog kG k rest (a.put kE.dst c) d):wpList prog kG k (kE::rest) a (v.alloc (eN b 3)):=
 lZ m g i n (h.to (eF.alloc _ _)) o _ 1 b.toList 1 p (by simpa using r) (ip v b _) s (by omega) λc d x y z=>u c d x y (by simpa using z)
end
def tY(l:gh):Prop:=∀b∈l,97<=b.toNat/\b.toNat<=122
theorem tY.MR(h:tY kR):(47:UInt8)∉kR:=λa=>by have:=h 47 a;simp at this
theorem zI(a:jw)(c:eI)(h:tY a.data.toList)(t:a.size<=64):Calls prog 102 #[eV a] c λe m=>e=fH (fz true)/\eF c m:=by
 obtain⟨u,v,w,g,n,i⟩:=rF c a;have o:=eD g;have p:=eD i;have r:=eD h;clear g i h n;go_in;go_wp
 go_loop [8] (λd=>∃b:Nat,b<=a.size/\d=eE b) (λd=>a.size- (intOf d).toNat)
 case atStart=>exact⟨0,by omega,rfl⟩
 case round=>
  obtain⟨b,x,rfl⟩:=hrel;by_cases f:b<a.size
  ·have j:b<a.data.toList.length:=by simpa using f
   have y:=r _ (eU j);obtain⟨z,A,k,s⟩:=p b (by simpa[jl,gC] using f);simp only[fd,ny,gP] at k;obtain⟨rfl,rfl⟩:=k;have l:(jl (gC a))[b]'(by simpa[jl,gC] using f)=.int .u8 (a.data.toList[b].toNat):=by simp[jl,gC]
   rw[l,lH] at s;generalize a.data.toList[b]=B at*;clear l j;go_wp
   go_round
   case rel=>exact⟨b+1,by omega,by go_num⟩
   case measure=>simp[intOf];omega
  ·obtain rfl:b=a.size:=by omega
   go_wp2;go_ret;exact⟨by rw[jU (show(a.size:Int)<=64 by omega)];rfl,o⟩
def ym(w:eI)(out:List gh)(e:Ending)(w':eI):Prop:=∃v',e=fH (ij #[v',fz true])/\w'.ownsRow w 9 1 v' out (iy out)/\eF w w'
theorem fU(a:gh):(fI a).data.toList=a:=by simp[fI]
theorem gV(a:gh):(fI a).size=a.length:=by simp[fI,ByteArray.size]
def sO(p:gh):Bool:= !p.isEmpty
theorem JJ(g:jw)(a:List gh)(i:eI)(m:g.data.toList=hH a)(v:a≠[])(n:∀c∈a,tY c/\c.length<=64)(S:g.size<=200):
 Calls prog 59 #[eV g] i (ym i (a.filter sO)):=by
 have E:=eD (Gl g a i m v (λc F=>(n c F).1.MR) (by omega));have G:=eD n;have T:a.length<=201:=by have:=pZ a;have o:=congrArg List.length m;simp at o;omega
 clear m v n;go_in;go_wp
 refine E.mono ?_;rintro e w ⟨U,rfl,p,x⟩;obtain⟨V,W,rfl⟩:=eR p;have H:=eD (Rd.fC p);have y:=eD x;clear p x;go_wp2;go_loopw [4,13] (λI r wr=>∃b:Nat,b<=a.length/\r=eE b/\OR w wr 9 1 I ((a.take b).filter sO).length (iy ((a.take b).filter sO))) (λ_ r _=>a.length- (intOf r).toNat)
 case atStart=>exact⟨0,by omega,rfl,OR.nil (eF.refl _) _ _⟩
 case round=>
  obtain⟨b,X,rfl,z⟩:=hrel;have d:=eD z;clear z;by_cases j:b<a.length
  ·obtain⟨Y,Z,rfl,s⟩:=H b (by simpa[iy] using j);have s:=d.ext.cell s;have A:(iy a)[b]'(by simpa[iy] using j)=eV (fI a[b]):=by simp[iy]
   rw[A] at s;have k:=G _ (eU j);have B:=eD (iz j);have ad:((a.take b).filter sO).length<=a.length:=eY (n8 _ _) (by simp;omega);generalize a[b]=c at*;clear A;have C:=eD (zI (fI c) wr (by rw[fU];exact k.1) (by rw[gV];exact k.2));by_cases l:c=[]
   ·subst l;have t:Hid ((a.take (b+1)).filter sO=(a.take b).filter sO):=eD (by rw[B];simp[sO]);have ae:(fI []).toList=[]:=by rw[gQ];rfl
    go_wp
    refine C.mono ?_;rintro e J ⟨rfl,f⟩;have u:=eD (d.to f);clear f;go_wp2;go_roundw
    case rel=>exact⟨b+1,by omega,by go_num,by rw[t];exact u⟩
    case measure=>simp[intOf];omega
   ·have t:Hid ((a.take (b+1)).filter sO=(a.take b).filter sO++[c]):=eD (by
     rw[B,Dy];have:sO c=true:=by cases c with
      |nil=>exact absurd rfl l
      |cons K L=>rfl
     simp[this])
    have af:(fI c).toList.isEmpty=false:=by
     rw[gQ,fU];cases c with
     |nil=>exact absurd rfl l
     |cons K L=>rfl
    have ag:((fI c).toList==[46])=false:=by rw[gQ,fU];refine mn.2 λe=> ?_;have:=k.1 46 (by rw[e];simp);simp at this
    clear k l;go_wp
    refine C.mono ?_;rintro e J ⟨rfl,f⟩;have u:=eD (d.to f);clear f;go_wp2_with (at_builtin;go_loud(refine DS rfl _ _ rfl u rfl #[eV (fI c)] rfl rfl (by simp[Value.oneCell']) (by omega) ?_))
    intro M N D o _;have O:Hid (OR w N 9 1 M ((a.take (b+1)).filter sO).length (iy ((a.take (b+1)).filter sO))):=eD (by rw[t];simpa[iy] using D)
    clear D o;go_wp
    go_roundw
    case rel=>exact⟨b+1,by omega,by go_num,O⟩
    case measure=>simp[intOf];omega
  ·obtain rfl:b=a.length:=by omega
   obtain⟨P,Q,rfl⟩:=d.mb;have R:Hid (ym i (a.filter sO) (fH (ij #[.slice P ((a.take a).filter sO).length Q,fz true])) wr):=eD ⟨_,rfl,by have:=d.own;rw[iT] at this ⊢;exact fq this y.out.size,y.out.trans d.out.ext⟩
   go_wp
   go_ret2
   exact R
theorem DV(k:fE)(s:Nat)(a:List gh)(c:eI)(l:Rd c k (iy a))(m:∀f∈a,tY f)(E:a.length<=201):
 Calls prog 385 #[.slice k a s] c (ir c 9 1 a (iy a)):=by
 have t:=eD l;have u:=eD m;clear l m;go_in;go_wp
 go_loopw [3,8] (λv i wr=>∃b:Nat,b<=a.length/\i=eE b/\OR c wr 9 1 v b (iy (a.take b))) (λ_ i _=>a.length- (intOf i).toNat)
 case atStart=>exact⟨0,by omega,rfl,OR.nil (eF.refl _) _ _⟩
 case round=>
  obtain⟨b,F,rfl,n⟩:=hrel;have d:=eD n;clear n;by_cases g:b<a.length
  ·obtain⟨G,H,rfl,j⟩:=t b (by simpa[iy] using g);have j:=d.ext.cell j;have o:(iy a)[b]'(by simpa[iy] using g)=eV (fI a[b]):=by simp[iy]
   rw[o] at j;have p:=u _ (eU g);have w:=eD (iz g);generalize a[b]=f at*;have I:((fI f).toList==[46,46])=false:=by rw[gQ,fU];refine mn.2 λe=> ?_;have:=p 46 (by rw[e];simp);simp at this
   clear o p;go_wp2_with (at_builtin;go_loud(refine DS rfl _ _ rfl d rfl #[eV (fI f)] rfl rfl (by simp[Value.oneCell']) (by omega) ?_))
   intro x y r z _;have A:Hid (OR c y 9 1 x (b+1) (iy (a.take (b+1)))):=eD (by rw[w];simpa[iy] using r);clear r z;go_wp
   go_roundw
   case rel=>exact⟨b+1,by omega,by go_num,A⟩
   case measure=>simp[intOf];omega
  ·obtain rfl:b=a.length:=by omega
   obtain⟨B,C,rfl⟩:=d.mb;have D:Hid (ir c 9 1 a (iy a) (fH (.slice B a C)) wr):=eD ⟨_,rfl,by have:=d.own;rwa [iT] at this,d.out.ext⟩
   go_wp
   go_ret;exact D
theorem Ih:∀a:List gh,Lib.join a [47]=hH a
 |[]=>rfl
 |[b]=>by simp[Lib.join,hH]
 |b::q::c=>by have:=Ih (q::c);simp only[hH,<-this];simp[Lib.join]
theorem pq(a b:jw):a++b=fI (a.data.toList++b.data.toList):=p6 _ _ (by simp)
theorem QL{a:jw}(h:kT=a):Ending.returned (eV kT)=fH (eV a):=by rw[h]
theorem JK(i:fE)(d:Nat)(a:List gh)(c:eI)(f:Rd c i (iy a))(o:a≠[])(z:a.length<=201)(p:a.length<=d)(A:(hH a).length<=4096):
 Calls prog 384 #[.slice i a d] c λe r=>e=fH (eV (fI (47::hH a)))/\eF c r:=by
 have s:=pi.2 o;obtain⟨t,u,rfl,j⟩:=f 0 (by simpa[iy] using s);have g:Lib.join ((a.map fI).map (·.data.toList)) [47]=hH a:=by
  rw[<-Ih a,jL];congr 1
  exact List.map_id'' (λv=>fU v) a
 have b:=Tryz.strings_Join t u d (a.map fI) ⟨#[47]⟩ c (λw B k=>by obtain⟨C,D,l,x⟩:=f w (by have:=(jS.1 k).1;simpa[iy] using this);simp only[fd,ny,gP] at l;obtain⟨rfl,rfl⟩:=l;obtain⟨E,m⟩:=jS.1 k;rw[x];simp[iy] at m ⊢;exact m) (js j) (by simp;omega) (by simpa using p) (by rw[g];omega)
 rw[g] at b;simp only[gW] at b;have b:=eD b;clear j f g;go_in;go_wp
 refine b.mono ?_;rintro e F ⟨rfl,n⟩;have y:=eD (eF.of n);clear n;go_wp2;go_ret;exact⟨QL (pq _ _),y⟩
def ff(ps:List gh):gh:=47::hH ps
structure mL(ps:List gh):Prop where
 low:∀p∈ps,tY p/\p.length<=64/\p≠[]
 rG:ps≠[]
 iO:(hH ps).length<=190
theorem mL.parts{a:List gh}(h:mL a)(c:eI):Calls prog 59 #[eV (fI (ff a))] c (ym c a):=by
 have d:(fI (ff a)).data.toList=hH ([]::a):=by
  rw[fU];cases a with
  |nil=>exact absurd rfl h.rG
  |cons b f=>rfl
 have g:([]::a).filter sO=a:=by
  rw[List.filter_cons_of_neg (by simp[sO])];refine JL.2 λb hp=> ?_;have:=(h.low b hp).2.2;cases b with
  |nil=>exact absurd rfl this
  |cons j f=>rfl
 have:=JJ (fI (ff a)) ([]::a) c d (by simp) (λb hp=>by
  rcases fm.1 hp with rfl|hp
  ·exact⟨λk i=>by simp at i,by simp⟩
  ·exact⟨(h.low b hp).1,(h.low b hp).2.1⟩) (by rw[gV];simp[ff];have:=h.iO;omega)
 rwa [g] at this
theorem vB(a:List gh)(f:eI)(h:mL a):Calls prog 374 #[eV (fI (ff a))] f λe i=>e=fH (ij #[eV (fI (ff a)),eE 0])/\eF f i:=by
 have j:=eD (h.parts f);have d:=eD h;have g:a.length<=201:=by have:=pZ a;have:=h.iO;omega
 have z:(fI (ff a)).toList.isEmpty=false:=by rw[gQ,fU];rfl
 have A:0<(fI (ff a)).size:=by rw[gV];simp[ff]
 have B:(fI (ff a))[0]=47:=rfl;clear h;go_in;go_wp
 refine j.mono ?_;rintro e k ⟨l,rfl,c,b⟩;obtain⟨m,n,rfl⟩:=eR c;have o:=eD (DV m n a k (Rd.fC c) (λp r=>(d.low p r).1) g);have s:=eD b;clear c b;go_wp21
 refine o.mono ?_;rintro e t ⟨l,rfl,c,b⟩;obtain⟨C,u,rfl,_,_,v,_⟩:=jI c (pi.2 d.rG);have w:=eD (JK _ u a t (Rd.fC c) d.rG g v (by have:=d.iO;omega));have x:=eD (s.trans b);clear c b;go_wp21
 refine w.mono ?_;rintro e D ⟨rfl,b⟩;have y:=eD (x.trans b);clear b;go_wp2;go_ret2
 exact⟨rfl,y⟩
theorem Gm(pre a:gh)(h:(47:UInt8)∉a):Lib.lastIndexByte (fI (pre++47::a)) 47=pre.length:=by
 have c:∀b,(fI (pre++47::a)).data[b]! =(pre++47::a).getD b default:=λb=>by simp[fI,getElem!_def,jx];cases(pre++47::a)[b]?<;>rfl
 have k:(fI (pre++47::a)).size=pre.length+(a.length+1):=by rw[gV];simp
 unfold Lib.lastIndexByte;rw[k];rcases Lib.lastIdx_spec (fI (pre++47::a)) 47 (pre.length+(a.length+1)) with⟨_,d⟩|⟨f,o,d,g,l⟩
 ·have:=d pre (by omega);rw[c] at this;simp at this
 ·rw[d];rcases Az f pre with i|i|i
  ·have:=l pre i (by omega);rw[c] at this;simp at this
  ·omega
  ·exfalso;rw[c,jx,qq (by omega)] at g;obtain⟨j,m⟩:∃j,f- pre.length=j+1:=⟨f- pre.length- 1,by omega⟩;rw[m,Uo,gg (by omega)] at g;simp only[pP] at g;have n:a[j]=47:=UInt8.toNat_inj.1 (by have:((47:UInt8).toNat:Int)=47:=rfl;omega);exact h (n▸eU _)
theorem Ii(pre a:gh)(c:eI)(h:(47:UInt8)∉a)(i:pre.length<=4096)(j:a.length<=4096):Calls prog 103 #[eV (fI (pre++47::a))] c λe f=>e=fH (eV (fI (if pre=[] then[47] else pre)))/\c=f:=by
 have b:=Tryz.strings_LastIndexByte (fI (pre++47::a)) 47 (by rw[gV];simp;omega) c;rw[Gm pre a h] at b;have b:=eD b;have k:(fI (pre++47::a)).size=pre.length+(a.length+1):=by rw[gV];simp
 have g:Hid ((fI (pre++47::a)).extract 0 (max (1:Int) pre.length).toNat=fI (if pre=[] then[47] else pre)):=eD (p6 _ _ (by
  rw[Lib.extract_data,fU];by_cases d:pre=[]
  ·subst d;rfl
  ·have:0<pre.length:=pi.2 d;rw[fG d,show(max (1:Int) pre.length).toNat=pre.length by omega];simp))
 generalize fI (pre++47::a)=l at*;generalize fI (if pre=[] then[47] else pre)=m at*;clear h;go_in;go_wp
 refine b.mono ?_;rintro e n ⟨rfl,rfl⟩;go_wp2;go_ret;exact⟨QL g,rfl⟩
def JM(ps:List gh):gh:=if ps.length=1 then[47] else ff ps.dropLast
theorem qv(a:gh):∀b:List gh,b≠[]->hH (b++[a])=hH b++47::a
 |[q],_=>rfl
 |q::c::d,_=>by have:=qv a (c::d) (by simp);simp only[nO,hH] at this ⊢;rw[this];simp
theorem Gn(a:List gh)(b:eI)(h:mL a):Calls prog 362 #[eV (fI (ff a))] b λe g=>e=fH (ij #[eV (fI (JM a)),eE 0])/\eF b g:=by
 have o:=eD (vB a b h);obtain⟨q,c,d⟩:∃q c,a=q++[c]:=⟨a.dropLast,a.getLast h.rG,(List.dropLast_concat_getLast h.rG).symm⟩;have f:=h.low c (by rw[d];simp);have i:=h.iO;have p:Hid (∀b:eI,Calls prog 103 #[eV (fI (ff a))] b λe g=>e=fH (eV (fI (JM a)))/\b=g):=eD λb=>by
  by_cases j:q=[]
  ·subst j;have:=Ii [] c b f.1.MR (by simp) (by have:=f.2.1;omega);have k:ff a=[]++47::c:=by rw[d];rfl
   have l:JM a=[47]:=by rw[d];rfl
   rw[k,l];simpa using this
  ·have m:=qv c q j;have s:(hH q).length<=190:=by rw[d,m] at i;simp at i;omega
   have:=Ii (ff q) c b f.1.MR (by simp[ff];omega) (by have:=f.2.1;omega);have k:ff a=ff q++47::c:=by rw[d];unfold ff;rw[m];rfl
   have l:JM a=ff q:=by unfold JM;have:0<q.length:=pi.2 j;rw[fG (by rw[d];simp;omega),d,List.dropLast_concat]
   rw[k,l];rwa [fG (by simp[ff])] at this
 clear h d f i;go_in;go_wp
 refine o.mono ?_;rintro e t ⟨rfl,n⟩;have r:=eD n;clear n;go_wp21
 refine(p _).mono ?_;rintro e u ⟨rfl,rfl⟩;go_wp2;go_ret2
 exact⟨rfl,r⟩
def DW(at_ name:gh):gh:=if at_=[47] then 47::name else at_++47::name
theorem JN(at_ name:gh)(c:eI)(f:at_.length<=4096)(g:name.length<=4096):Calls prog 144 #[eV (fI at_),eV (fI name)] c λe i=>e=fH (eV (fI (DW at_ name)))/\c=i:=by
 have k:(fI name).size<=4096:=by rw[gV];exact g
 have l:(fI at_).size<=4096:=by rw[gV];exact f
 by_cases h:at_=[47]
 ·have a:Hid (DW at_ name=47::name):=eD (fW h);have m:(fI at_).toList=[47]:=by rw[gQ,fU,h]
  have b:=eD (fU at_);have j:=eD h;clear h;generalize fI at_=d at*;go_in;go_wp
  go_ret;exact⟨QL ((pq _ _).trans (by rw[fU,b,a,j];rfl)),rfl⟩
 ·have a:Hid (DW at_ name=at_++47::name):=eD (fG h);have n:((fI at_).toList==[47])=false:=by rw[gQ,fU];exact mn.2 h
  have b:=eD (fU at_);clear h;generalize fI at_=d at*;have o:(d++⟨#[47]⟩).size<=4097:=by rw[pq,gV];simp;omega
  go_in;go_wp
  go_ret;exact⟨QL ((pq _ _).trans (by rw[pq,fU,fU,b,a];simp)),rfl⟩
theorem M1(a:jw)(c:UInt8)(d:eI)(h:c∉a.data.toList):Calls prog 279 #[eV a,eV ⟨#[c]⟩] d λe f=>e=fH (ij #[eV a,eV ByteArray.empty,fz false])/\d=f:=by
 have b:=AK a c d;rw[pF _ _ h] at b;have b:=eD b;clear h;go_in;go_wp
 refine b.mono ?_;rintro e f ⟨rfl,rfl⟩;go_wp2;go_ret3
 exact⟨rfl,rfl⟩
theorem M2(a:jw)(b:UInt8)(c:eI)(h:b∉a.data.toList):Calls prog 200 #[eV a,eV ⟨#[b]⟩] c λe d=>e=fH (ij #[eV a,eV ByteArray.empty,fz false])/\c=d:=by
 have f:=eD (M1 a b c h);clear h;go_in;go_wp
 refine f.mono ?_;rintro e d ⟨rfl,rfl⟩;go_wp2;go_ret3
 exact⟨rfl,rfl⟩
theorem yr(a:gh)(p:jw)(b:eI)(i:a≠[])(w:a.length<=200)(j:(36:UInt8)∉a):Calls prog 373 #[eV (fI a),eV p] b λe c=>e=fH (ij #[eV (fI a),eE 0])/\eF b c:=by
 have r:=gV a;have x:(fI a).toList.isEmpty=false:=by
  rw[gQ,fU];cases a with
  |nil=>exact absurd rfl i
  |cons y z=>rfl
 have s:=eD (λb=>M2 (fI a) 36 b (by rw[fU];exact j));have A:(fI a).size<=200:=by omega
 have k:Lib.IsBuilder 547 5 b b [] (b.alloc (eN #[.pointer none,eW] 547)):=
  .inl ⟨fJ _,_,Hw b _,⟨by simp,.inl ⟨rfl,rfl⟩⟩,by simp[Value.ownBlock]⟩
 have t:=eD (Tryz.Builder_WriteString b b [] (fI a) _ k (by simp;omega) (by simp));clear i j r k;go_in;go_wp
 refine wp_loop_rounds 1 ?_;rw[rounds_succ];go_wp
 refine(s _).mono ?_;rintro e c ⟨rfl,rfl⟩;go_wp21
 refine t.mono ?_;rintro e f ⟨rfl,g,l⟩;rw[j6] at g;have m:=eD (eF.of ((eF.alloc b _).below.trans l));have n:Hid (Lib.IsBuilder 547 5 b b (Lib.byteCells a) f):=eD (.inr (by
  have e:Lib.strCells (fI a)=Lib.byteCells a:=by unfold Lib.strCells;rw[fU];rfl
  rw[<-e];exact g))
 have d:=Tryz.Builder_Len b b _ f n;rw[show(Lib.byteCells a).length=a.length by simp[Lib.byteCells]] at d;have d:=eD d;have u:=eD (Tryz.Builder_String_any b b a f n m.size);clear g l;go_wp21
 refine d.mono ?_;rintro e c ⟨rfl,rfl⟩;go_wp21
 refine u.mono ?_;rintro e c ⟨rfl,o⟩;have v:=eD (eF.of (m.below.trans o));clear o;go_wp2;go_ret2
 exact⟨rfl,v⟩
