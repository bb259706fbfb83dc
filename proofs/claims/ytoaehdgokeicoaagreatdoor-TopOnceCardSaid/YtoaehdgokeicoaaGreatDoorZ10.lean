/- TopOnce: part 10 of the proof. -/
import Derived.Test.YtoaehdgokeicoaaGreatDoorZ09
set_option maxRecDepth 100000
set_option maxHeartbeats 30000000
set_option linter.all false
namespace Go.Proofs.YtoaehdgokeicoaaGreatDoor
open K9 Z9 Go.Proofs.Tryz
section
variable{w v:eI}{n m i j p b c d g:Nat}{l:fY}{r s:fe}{f:ik}{a:Act}{kT:jw}
section
open Go.RowKit
theorem Cp{a:jw}(h:¬kT=a):¬kT.toList=a.toList:=λe=>h (by rw[gQ,gQ] at e;cases kT;cases a;simp only at e;rw[Mr] at e;rw[e])
theorem QZ{a:jw}(h:¬kT=a):(kT.toList==a.toList)=false:=mn.mpr (Cp h)
theorem P5(a:eI)(b:Im):eQ (a.alloc (eN b.eL.toArray 174)) a 174 b.eL.toArray:=eQ.new _ _ _
theorem qB:(prog.info? 174).map (·.size)=some 15:=by kernel_rfl
theorem vM(m:Im):m.eL.length=15:=rfl
theorem oD{m:Im}(h:eQ w n 174 m.eL.toArray):(loadVar 174 (eJ n 0)).run prog w=.ok (fV m.eL.toArray) w:=
 h.fK 174 _ underlying174 rfl (by rw[vM];exact qB)
theorem Bc(a:Im)(d:eI)(k:fE)(l:Nat)(gC:gh)(h:nN d a k l gC)(b c f:Int)(r:0<=b)(s:0<=c)(t:b+c<=gC.length)(m:f=0\/f=4):
 Calls prog 236 #[fV a.eL.toArray,fV #[eE b,eE c,eE f]] d λe n=>e=fH (fz true)/\eF d n:=by
 obtain⟨o,p,g,u,d0,d1,d2,d3⟩:=h.cells;have i:=h.n;have v:=h.iO;have j:a.eL.toArray[2]? =some (.slice (some (eJ o p)) 1 a.c2.c):=by show some (Value.slice a.c2.A a.c2.n a.c2.c)=_;rw[g,i]
 have w:=((P5 d a).alloc (eN #[eE b,eE c,eE f] 420)).cell 2 j;have x:decide (b>=0)=true:=by rw[jh];omega
 have y:decide (c<=(gC.length:Int))=true:=by rw[jh];omega
 have z:decide (b<=(gC.length:Int)- c)=true:=by rw[jh];omega
 have A:decide (b- 0<=(gC.length:Int)- c)=true:=by rw[jh];omega
 clear h g i j;generalize a.eL=B at*;rcases m with rfl|rfl;all_goals
  go_in;go_wp
  refine wp_loop_rounds 1 ?_;rw[rounds_succ];go_wp
  go_ret;exact⟨rfl,(oP.trans oP).trans oP⟩
theorem Nr(a:Im)(b:eI)(d:fE)(f:Nat)(gC:gh)(h:nN b a d f gC):
 Calls prog 162 #[fV a.eL.toArray] b λe j=>e=fH (fz true)/\eF b j:=by
 obtain⟨k,l,g,m,d0,d1,d2,d3⟩:=h.cells;have i:=h.n;have n:=h.pos;have o:=h.iO;have c:a.eL.toArray[2]? =some (.slice (some (eJ k l)) 1 a.c2.c):=by show some (Value.slice a.c2.A a.c2.n a.c2.c)=_;rw[g,i]
 have p:=(P5 b a).cell 2 c;have r:=((P5 b a).alloc (eN #[eE 0,eE gC.length,.slice d gC f,eE 5] 255)).cell 2 c;clear h g i c;generalize a.eL=s at*;generalize gC.length=t at*;go_in;go_wp
 refine wp_loop_rounds 2 ?_;rw[rounds_succ];go_wp2;rw[rounds_succ];go_wp2;go_ret;exact⟨rfl,(eF.alloc _ _).trans (eF.alloc _ _)⟩
theorem GH(a:Im)(b:eI)(h:a.c9.n=0):Calls prog 165 #[fV a.eL.toArray] b λe c=>e=fH (fz true)/\eF b c:=by
 have q:a.eL.toArray[9]? =some (.slice a.c9.A 0 a.c9.c):=by show some (Value.slice a.c9.A a.c9.n a.c9.c)=_;rw[h]
 have d:=(P5 b a).cell 9 q;clear q h;generalize a.eL=f at*;go_in;go_wp2;refine wp_loop_rounds 1 ?_;rw[rounds_succ];go_wp2;go_ret;exact⟨rfl,eF.alloc _ _⟩
theorem J9(a:Im)(b:eI)(h:a.rh.n=0):Calls prog 166 #[fV a.eL.toArray] b λe c=>e=fH (fz true)/\eF b c:=by
 have q:a.eL.toArray[10]? =some (.slice a.rh.A 0 a.rh.c):=by show some (Value.slice a.rh.A a.rh.n a.rh.c)=_;rw[h]
 have d:=(P5 b a).cell 10 q;clear q h;generalize a.eL=f at*;go_in;go_wp2;refine wp_loop_rounds 1 ?_;rw[rounds_succ];go_wp2;go_ret;exact⟨rfl,eF.alloc _ _⟩
theorem Ep(a:Bool)(b:eI):Calls prog 99 #[fz a] b λe c=>e=fH (eE (Ea a))/\b=c:=by
 cases a;all_goals
  go_in;go_wp2;go_ret;exact⟨rfl,rfl⟩
def Er(n:Nat)(li lf:fS):Prop:=(li=[]/\lf=[])\/∃x y,li=[x]/\lf=[y]/\0<=x/\x+8<=n/\0<=y/\y+8<=n
theorem Ns(a:Im)(b:eI)(r:fE)(s:Nat)(gC:gh)(h:nN b a r s gC)(i j:fS)(t:a.pU.n=i.length)(u:a.pV.n=j.length)(v:Rd b a.pU.A (ints i))(w:Rd b a.pV.A (ints j))(I:Er gC i j):
 Calls prog 167 #[fV a.eL.toArray] b λe c=>e=fH (fz true)/\eF b c:=by
 have x:=eD (λc (J:eF b c) (o:Int) (K:0<=o) (L:o+8<=gC.length)=>Bc a c r s gC (h.ext J) o 8 4 K (by omega) L (.inr rfl));have y:a.eL.toArray[11]? =some (.slice a.pU.A i.length a.pU.c):=by show some (Value.slice a.pU.A a.pU.n a.pU.c)=_;rw[t]
 have z:a.eL.toArray[12]? =some (.slice a.pV.A j.length a.pV.c):=by show some (Value.slice a.pV.A a.pV.n a.pV.c)=_;rw[u]
 have k:=P5 b a;have M:=k.cell 11 y;have N:=k.cell 12 z;have A:=eF.alloc b (eN a.eL.toArray 174);have B:=eD (λc (h:eQ c b 174 a.eL.toArray)=>oD h);clear t u y z h;generalize a.pU.A=Z at*;generalize a.pV.A=ad at*;generalize a.eL=d at*;rcases I with⟨rfl,rfl⟩|⟨O,P,rfl,rfl,Q,R,S,T⟩
 ·go_in;go_wp2;refine wp_loop_rounds 3 ?_;rw[rounds_succ];go_wp2;refine wp_loop_rounds 1 ?_;rw[rounds_succ];go_wp2;rw[rounds_succ];go_wp2;refine wp_loop_rounds 1 ?_;rw[rounds_succ];go_wp2;rw[rounds_succ];go_wp2;go_ret;exact⟨rfl,(eF.alloc _ _).trans (eF.alloc _ _)⟩
 ·obtain⟨f,f1,rfl,C⟩:=v 0 (by simp[ints]);obtain⟨g,f2,rfl,D⟩:=w 0 (by simp[ints]);simp only[ints,hU,jt,sZ,m5] at C D;have l:=A.trans (eF.alloc (b.alloc (eN d.toArray 174)) (eN #[.slice (some (eJ f f1)) 1 a.pU.c,.slice (some (eJ g f2)) 1 a.pV.c] 23));have p:=eQ.new (b.alloc (eN d.toArray 174)) 23 #[.slice (some (eJ f f1)) 1 a.pU.c,.slice (some (eJ g f2)) 1 a.pV.c];rw[fM] at p;have E:=k.alloc (eN #[.slice (some (eJ f f1)) 1 a.pU.c,.slice (some (eJ g f2)) 1 a.pV.c] 23);clear v w;go_in;go_wp2;generalize(b.alloc (eN d.toArray 174)).alloc (eN #[.slice (some (eJ f f1)) 1 a.pU.c,.slice (some (eJ g f2)) 1 a.pV.c] 23)=w1 at*;clear M N k A;have U:=l.cell C;have V:=p.ce 0 (.slice (some (eJ f f1)) 1 a.pU.c);have F:=eD (B _ E);refine wp_loop_rounds 3 ?_;rw[rounds_succ];go_wp2;refine wp_loop_rounds 2 ?_;rw[rounds_succ];go_wp2_with (refine eK rfl 174 (.tmp 1) rfl _ rfl (fV d.toArray) ?_ ?_)
  ·exact F
  go_wp2_with fail
  refine(x _ l O Q R).mono ?_;rintro e w2 ⟨rfl,m⟩;clear U V F;have n:=l.trans m;have W:=n.cell D;have X:=(m.eH p).ce 1 (.slice (some (eJ g f2)) 1 a.pV.c);have G:=eD (B _ (m.eH E));clear m l;go_wp2;rw[rounds_succ];go_wp2;rw[rounds_succ];go_wp2;refine wp_loop_rounds 2 ?_;rw[rounds_succ];go_wp2_with (refine eK rfl 174 (.tmp 1) rfl _ rfl (fV d.toArray) ?_ ?_)
  ·exact G
  go_wp2_with fail
  refine(x _ n P S T).mono ?_;rintro e w3 ⟨rfl,H⟩;have Y:=eD (n.trans H);clear W X G H n;go_wp2;rw[rounds_succ];go_wp2;rw[rounds_succ];go_wp2;go_ret;exact⟨rfl,Y⟩
theorem vN(a:gh):(mr a).length=2:=rfl
theorem xl{A:fE}{a:List gh}(h:Rd w A (fO mr a)){k:Nat}(f:k<a.length):∃b c,A=some (eJ b c)/\b<w.heap.size/\w.cell? (eJ b (c+k*2))=some (eV (fI a[k]))/\w.cell? (eJ b (c+k*2+1))=some (eW):=by
 have g:=kU vN a;have i:k*2<(fO mr a).length:=by rw[g];omega
 have j:k*2+1<(fO mr a).length:=by rw[g];omega
 obtain⟨b,c,l,m⟩:=h (k*2) i;obtain⟨r,s,d,p⟩:=h (k*2+1) j;rw[l] at d;simp only[fd,ny,gP] at d;obtain⟨rfl,rfl⟩:=d;have n:=iI vN a k 0 f (by omega);have o:=iI vN a k 1 f (by omega);rw[m5,gg i] at n;rw[gg j] at o;refine⟨b,c,l,js m, ?_, ?_⟩
 ·rw[m];exact n
 ·rw[qX,p];exact o
theorem Nt(a:Im)(b:lu)(c:eI)(h:Gw c a b):Calls prog 161 #[fV a.eL.toArray] c λe o=>e=fH (fz true)/\eF c o:=by
 have i:=h.ok;have R:=i.h';have C:=eD i.eP;have D:decide (a.c1>=0)=true:=by rw[h.gB];rcases i.gB with h|h<;>rw[h]<;>decide
 have E:decide (a.c1<16)=true:=by rw[h.gB];rcases i.gB with h|h<;>rw[h]<;>decide
 have u:a.eL.toArray[3]? =some (.slice a.c3.A b.ft.length a.c3.c):=by show some (Value.slice a.c3.A a.c3.n a.c3.c)=_;rw[h.n3]
 have v:a.eL.toArray[4]? =some (.slice a.c4.A 0 a.c4.c):=by show some (Value.slice a.c4.A a.c4.n a.c4.c)=_;rw[h.z4]
 have m:Hid (b.name≠[]->∀c,Calls prog 202 #[eV (fI b.name)] c λe o=>e=fH (fz true)/\eF c o):=eD (λg c=>by
  rcases i.name with h|⟨F,G,H⟩
  ·exact absurd h g
  ·exact tJ _ c (by rw[fU];exact F) (by rw[gV];exact G) (by rw[gV];exact H))
 have I:=eD h.h'.rd;have w:=h.name;have k:=P5 c a;have p:=k.ce 0 (eV a.c0);have r:=k.ce 1 (eE a.c1);have n:=k.cell 3 u;have j:=k.cell 4 v;have x:=eD (eF.alloc c (eN a.eL.toArray 174));rw[w] at p;clear h u v w k i;generalize a.eL=J at*;generalize a.c1=S at*;generalize a.c3.A=T at*;go_in;go_upto_region 1 with(fail)
 generalize c.alloc (eN J.toArray 174)=K at*;go_cut [3] (λL M=>L=fz true/\eF K M)
 case first=>
  by_cases g:b.name=[]
  ·have N:(fI b.name).toList=[]:=by rw[gQ,fU];exact g
   clear g m;go_wp2;go_meet;exact⟨rfl,eF.refl _⟩
  ·have N:(fI b.name).toList.isEmpty=false:=by
    rw[gQ,fU];cases h:b.name with
    |nil=>exact absurd h g
    |cons U V=>rfl
   have W:¬(fI b.name).toList=[]:=by rw[gQ,fU];exact g
   have O:=eD (m g);clear g m;go_wp2_with fail
   refine(O _).mono ?_;rintro e X ⟨rfl,l⟩;replace r:=l.cell r;replace n:=l.cell n;replace j:=l.cell j;have P:=eD l;clear l p;go_wp2;go_meet;exact⟨rfl,P⟩
 case rest=>
  obtain⟨rfl,d⟩:=hcut;replace n:=d.cell n;replace j:=d.cell j;have y:=eD (x.trans d);clear d p r D E m x;go_wp2;go_loopw [43,3] (λs Q wr=>∃f:Nat,f<=b.ft.length/\s=eE f/\Q=fz true/\eF wc wr) (λs _ _=>b.ft.length- (intOf s).toNat)
  case atStart=>exact⟨0,eX _,rfl,rfl,eF.refl _⟩
  case round=>
   obtain⟨f,Y,rfl,rfl,d⟩:=hrel;by_cases z:f<b.ft.length
   ·obtain⟨Z,ad,rfl,hb,d0,d1⟩:=xl ((y.trans d).rd I) z;have A:=C _ (eU z);have B:1<=(fI b.ft[f]).size/\(fI b.ft[f]).size<=64:=by rw[gV];exact A
    obtain⟨B,ae⟩:=B;have t:=eD d;clear A d;generalize fI b.ft[f]=nm at*;go_wp2;refine wp_loop_rounds 1 ?_;rw[rounds_succ];go_wp2;go_roundw
    case rel=>exact⟨f+1,by omega,by go_num,rfl,t.trans (eF.alloc _ _)⟩
    case measure=>simp[intOf];omega
   ·obtain rfl:f=b.ft.length:=by omega
    replace j:=d.cell j;have t:=eD (y.trans d);clear d;go_wp2;refine wp_loop_rounds 1 ?_;rw[rounds_succ];go_wp2;go_ret;exact⟨rfl,t⟩
theorem Nu(a:Im)(b:lu)(f:eI)(h:Gw f a b)(Y:a.l=b.gy)(Z:zD f a.SA b.gy)(aw:b.gy.length<=a.sc):Calls prog 163 #[fV a.eL.toArray] f λe l=>e=fH (fz true)/\eF f l:=by
 have y:=h.ok;obtain⟨BA,bc,ad⟩:=h.Td;have HH:=eD (λl (d:eF f l) (N O:Int) (m:0<=N) (n:0<=O) (o:N+O<=b.gC.length)=>Bc a l BA bc b.gC (ad.ext d) N O 0 m n o (.inl rfl));have ax:=y.gy;have ae:=eD y.sym;have af:∀q c (p:q<b.gy.length) (P:c<b.gy.length),q<c->¬b.gy[c].name=b.gy[q].name:=λq c p P z e=>by have:=fZ y.JZ (i:=c) (j:=q) (by simpa using P) (by simpa using p) (by simpa using e);omega
 have ak:=eD af;have q5:a.eL.toArray[5]? =some (.slice a.SA b.gy.length a.sc):=by show some (Value.slice a.SA a.l.length a.sc)=_;rw[Y]
 have Q:=P5 f a;have r:=Q.cell 5 q5;have HB:=eD Q;have A:=eD (eF.alloc f (eN a.eL.toArray 174));have al:=eD (λl (h:eQ l f 174 a.eL.toArray)=>oD h);have HR:=eD Z;clear h y ad af q5 Q Y Z;generalize a.eL=vs at*;generalize a.SA=SA at*;generalize a.sc=sc at*;go_in;go_wp2;generalize f.alloc (eN vs.toArray 174)=w1 at*;go_loopw [14] (λi wr=>∃c:Nat,c<=b.gy.length/\i=eE c/\eF w1 wr) (λi _=>b.gy.length- (intOf i).toNat)
 case atStart=>exact⟨0,eX _,rfl,eF.refl _⟩
 case round=>
  obtain⟨c,P,rfl,d⟩:=hrel;by_cases z:c<b.gy.length
  ·obtain⟨yb,yo,B,ay,g⟩:=HR.Dt z;obtain⟨k,C,s,t,u,am,an,ao,ag,R,S,ah⟩:=ae _ (eU z);rw[u] at g;obtain⟨m,n,o,D,E,F,G,H,I⟩:=g.ext (A.trans d);simp only[gR] at m n o D E F G H I;have J:=λf=>wM k C s t f am an ao ag R S;simp only[gR,iV.eL] at J;have J:=eD J;have ap:Hid (∀q (p:q<b.gy.length),q<c->¬fI k=b.gy[q].name):=eD (λq p T e=>ak q c p z T (by rw[u];exact e));subst B;have HV:=eD R;have HZ:=eD S;have aq:=eD ah;have ar:=eD d;obtain⟨v,rfl⟩:∃v,v=wr:=⟨wr,rfl⟩;have bz:=eQ.new v 118 #[eV (fI k),eV ⟨#[]⟩,fz false,eE 1,fz false,eE C,fz true,eE s,eE t];have U:=eF.alloc v (eN #[eV (fI k),eV ⟨#[]⟩,fz false,eE 1,fz false,eE C,fz true,eE s,eE t] 118);clear g u ag R S ah;replace r:=d.cell r;clear d;go_wp2_with fail
   generalize v.alloc (eN #[eV (fI k),eV ⟨#[]⟩,fz false,eE 1,fz false,eE C,fz true,eE s,eE t] 118)=w2 at*;generalize v.heap.size=az at*;refine(J _).mono ?_;rintro e w3 ⟨rfl,K⟩;have w:=K.eH bz;have V:=eD (ar.trans (U.trans K));have c6:=w.ce 6 (fz true);have c3:=w.ce 3 (eE 1);have c7:=w.ce 7 (eE s);have c8:=w.ce 8 (eE t);have ai:=eD (al _ (V.eH HB));replace r:=(U.trans K).cell r;clear m n o D E F G H I bz U K;go_wp2_with (refine eK rfl 174 (.tmp 1) rfl _ rfl (fV vs.toArray) ?_ ?_)
   ·exact ai
   go_wp2_with fail
   refine(HH _ (A.trans V) s t HV HZ aq).mono ?_;rintro e w4 ⟨rfl,L⟩;have aj:=eD (V.trans L);have au:=eD (L.eH w);replace r:=L.cell r;have aA:c<=sc:=by omega
   clear c6 c3 c7 c8 w L ai;go_wp2;go_loopw [60] (λj wr=>∃q:Nat,q<=c/\j=eE q/\eF w4 wr) (λj _=>c- (intOf j).toNat)
   case atStart=>exact⟨0,eX _,rfl,eF.refl _⟩
   case round=>
    obtain⟨q,p,rfl,d⟩:=hrel;by_cases T:q<c
    ·have W:q<b.gy.length:=by omega
     obtain⟨aB,aC,B,aD,g⟩:=HR.Dt W;obtain⟨l2,av,v2,z2,u,_⟩:=ae _ (eU W);have M:=ap q W T;rw[u] at g M;obtain⟨m,n,o,D,E,F,G,H,I⟩:=g.ext ((A.trans aj).trans d);simp only[gR] at m n o D E F G H I M;simp only[fd,ny,gP] at B;obtain⟨rfl,rfl⟩:=B;have X:=(d.eH au).alloc (eN #[eV (fI l2),eV ⟨#[]⟩,fz false,eE 1,fz false,eE av,fz true,eE v2,eE z2] 118);have c6:=X.ce 6 (fz true);have c0:=X.ce 0 (eV (fI k));have x:=eD d;generalize fI k=nm at*;generalize fI l2=aE at*;have aF:=Cp M;clear M;clear g u d X;go_wp2;go_roundw
     case rel=>exact⟨q+1,by omega,by go_num,x.trans (eF.alloc _ _)⟩
     case measure=>simp[intOf];omega
    ·obtain rfl:q=c:=by omega
     have x:=eD (aj.trans d);clear d;go_wp2;go_roundw
     case rel=>exact⟨q+1,by omega,by go_num,x⟩
     case measure=>simp[intOf];omega
  ·obtain rfl:c=b.gy.length:=by omega
   have x:=eD (A.trans d);clear d;go_wp2;go_ret;exact⟨rfl,x⟩
end
section
open Go.RowKit Pl
def Sm(n:Nat)(ws:fe)(sh:Int)(l:List iV)(b:Nat)(last i:Int):Bool:=
 decide (last<i)&&decide (i<l.length)&&pT (l.getD i.toNat rz)&&decide (gZ (l.getD i.toNat rz).name%n=b)&& !sX ws sh (gZ (l.getD i.toNat rz).name)
def rU(n:Nat)(ws:fe)(sh:Int)(l:List iV)(b:Nat):Int->fS->Bool
 |_,[]=>true
 |last,i::r=>Sm n ws sh l b last i&&rU n ws sh l b i r
def Es(n:Nat)(ws:fe)(sh:Int)(l:List iV):Nat->List Bk->Bool
 |_,[]=>true
 |b,k::r=>rU n ws sh l b (-1) k.is&&Es n ws sh l (b+1) r
def qc(bs:List Bk):Nat:=(bs.map λk=>k.is.length).sum
def j5(t:Tb)(l:List iV):Bool:=
 decide (l.length<=512)&&decide (1<=t.bs.length)&&decide (t.bs.length<=512)&&kV t.ws.length t.sh&&Es t.bs.length t.ws t.sh l 0 t.bs&&decide (qc t.bs=(gK l).length)
theorem yJ(a:List Bk){b:Nat}(h:b<a.length):qc (a.take (b+1))=qc (a.take b)+(a.getD b Dq).is.length:=by unfold qc;rw[iz h,iC,MO,jx,gg h];simp
theorem Nv(b:List Bk)(h:∀f∈b,f.is.length<=17592186044416)(a:Nat):qc (b.take a)<=a*17592186044416:=by
 induction a with
 |zero=>simp[qc]
 |succ a d=>
  rcases m0 a b.length with c|c
  ·rw[yJ b c,Nat.succ_mul];have e:b.getD a Dq=b[a]:=by rw[jx,gg c];rfl
   have:=h _ (eU c);rw[<-e] at this;exact Nat.add_le_add d this
  ·rw[mZ (by omega)];rw[mZ c] at d;exact eY d (qU _ (tj a))
theorem UB(a:List Bk){b:Nat}(h:b<a.length):a.drop b=a.getD b Dq::a.drop (b+1):=by rw[jx,gg h];exact sN h
theorem GI(a:Nat)(b:fe)(c:Int)(d:List iV)(f:Nat)(j g:Int)(is:fS)(i:Nat)(q:Bool)(h:q=rU a b c d f j (is.drop i))(k:is.drop i=g::is.drop (i+1)):
 (Sm a b c d f j g=false->q=false)/\(Sm a b c d f j g=true->q=rU a b c d f g (is.drop (i+1))):=by
 rw[h,k];constructor
 ·intro e;simp only[rU];rw[e];rfl
 ·intro e;simp only[rU];rw[e];rfl
def J'(t:Tb)(l:List iV)(w:eI)(e:Ending)(w':eI):Prop:=e=fH (eE (if j5 t l then 0 else 80))/\eF w w'
theorem J'.no{a:Tb}{b:List iV}(h:j5 a b=false)(c:eF w v):J' a b w (fH (eE 80)) v:=⟨by rw[h];rfl,c⟩
theorem Ka(Q:Tb)(ag:fE)(au:Nat)(c:List iV)(u:eI)(R:Q.In u)(hA:zD u ag c)(hf:∀aQ∈c,aQ.Fit)(hl:c.length<=140737488351232):
 Calls prog 164 #[fV Q.eL.toArray,.slice ag c au] u (J' Q c u):=by
 have L:=eD R;have HA:=eD hA;have HF:=eD hf;have aR:=R.Ul;have aS:=R.Qo;obtain⟨p,n,a,l,wc,f,g⟩:=Q;simp only at aR aS;simp only[Tb.eL];have E:Hid (j5 ⟨p,n,a,l,wc,f,g⟩ c=(decide (c.length<=512)&&decide (1<=a.length)&&decide (a.length<=512)&&kV f.length g&&Es a.length f g c 0 a&&decide (qc a=(gK c).length))):=eD rfl;clear R hA hf;go_in;by_cases a7:512<c.length
 ·have m:Hid (j5 ⟨p,n,a,l,wc,f,g⟩ c=false):=eD (by rw[E,kD (by omega:¬c.length<=512)];simp);go_wp2;go_ret;exact J'.no m (eF.alloc _ _)
 by_cases a8:a.length<1
 ·have m:Hid (j5 ⟨p,n,a,l,wc,f,g⟩ c=false):=eD (by rw[E,kD (by omega:¬1<=a.length)];simp);go_wp2;go_ret;exact J'.no m (eF.alloc _ _)
 by_cases a9:512<a.length
 ·have m:Hid (j5 ⟨p,n,a,l,wc,f,g⟩ c=false):=eD (by rw[E,kD (by omega:¬a.length<=512)];simp);go_wp2;go_ret;exact J'.no m (eF.alloc _ _)
 have aT:a.length<=512:=by omega
 go_wp2_with fail
 have ah:eQ (u.alloc (.cells #[.slice p a.length n,.slice l f.length wc,eE g] 170)) u 170 #[.slice p a.length n,.slice l f.length wc,eE g]:=eQ.new _ _ _;have S:=eF.alloc u (.cells #[.slice p a.length n,.slice l f.length wc,eE g] 170);generalize u.alloc (.cells #[.slice p a.length n,.slice l f.length wc,eE g] 170)=T at*;generalize u.heap.size=tb at*;cases M:kV f.length g
 ·have m:Hid (j5 ⟨p,n,a,l,wc,f,g⟩ c=false):=eD (by rw[E,M];simp);refine(Dp l f.length wc g T (by unfold maxLen;omega) M).mono ?_;rintro e s ⟨rfl,N⟩;have F:=eD (S.trans (show eF T s from N));clear ah S N;go_wp2;go_ret;exact J'.no m F
 ·refine(sr l f.length wc g T M).mono ?_;rintro e s ⟨rfl,N⟩;have ai:eF T s:=N;have G:=ai.eH ah;have aU:=eD G;have F:=eD (S.trans ai);have aV:=eD M;have t0:=G.ce 0 (.slice p a.length n);have av:=Nv a (λr hk=>by have:=(L.VA r hk).len;omega);have aW:=eD av;clear ah S N ai G M av;go_wp2;go_loopw [5,37] (λaj i wr=>∃j:Nat,j<=a.length/\i=eE j/\aj=eE (qc (a.take j):Nat)/\Es a.length f g c 0 a=Es a.length f g c j (a.drop j)/\eF s wr) (λ_ i _=>a.length- (intOf i).toNat)
  case atStart=>exact⟨0,eX _,rfl,rfl,rfl,eF.refl _⟩
  case round=>
   obtain⟨j,hb,rfl,rfl,aw,A⟩:=hrel;have ak:=eD aw;have H:=eD A;have a':=aW j;clear aw A;obtain⟨U,rfl⟩:∃U,U=wr:=⟨wr,rfl⟩;by_cases al:j<a.length
   ·obtain⟨V,W,ax,X,B⟩:=L.Gb (i:=j) al;simp only at ax X B;subst ax;replace X:=(F.trans H).cell X;have am:=eD (UB a al);have aX:=eD (yJ a al);have aY:=B.len;generalize a.getD j Dq=bk at*;generalize qc (a.take j)=O at*;have ay:=eD B;obtain⟨KA,kc,is⟩:=bk;simp only[Bk.cell] at X;simp only at aY am;clear B;go_wp2;go_loopw [5,8,44] (λaj aZ i wr=>∃(r:Nat) (t:Int),r<=is.length/\i=eE r/\aj=eE (O+r:Nat)/\aZ=eE t/\ -1<=t/\t<=9223372036854775807/\rU a.length f g c j (-1) is=rU a.length f g c j t (is.drop r)/\eF U wr) (λ_ _ i _=>is.length- (intOf i).toNat)
    case atStart=>exact⟨0, -1,eX _,rfl,rfl,rfl,by omega,by omega,rfl,eF.refl _⟩
    case round=>
     obtain⟨r,t,hk,rfl,rfl,rfl,bb,bc,az,A⟩:=hrel;have aA:=eD az;have Y:=eD A;clear az A;have y:=eD (F.trans (H.trans Y));by_cases an:r<is.length
     ·obtain⟨ib,io,aB,bd,aC⟩:=ay.rd.int an;simp only at aB;subst aB;replace aC:=y.cell aC;have be:=ay.vq _ (pR (d:=0) an);obtain⟨q1,q2⟩:=GI a.length f g c j t (is.getD r 0) is r _ aA (Sc is an);generalize is.getD r 0=I at*;have P:Hid (Sm a.length f g c j t I=false->j5 ⟨some (eJ V W),n,a,l,wc,f,g⟩ c=false):=eD (λh=>by rw[E,ak,am];simp only[Es];rw[q1 h];simp)
      have a0:=eD q2;clear q1 q2;have Z:=(H.trans Y).eH aU;have s0:=Z.ce 0 (.slice (some (eJ V W)) a.length n);have s1:=Z.ce 1 (.slice l f.length wc);have s2:=Z.ce 2 (eE g);clear Z;by_cases ao:I<=t
      ·have m:=eD (P (by unfold Sm;rw[kD (by omega:¬t<I)];simp));have aD:=jU ao;clear s0 s1 s2;go_wp2;go_quiet (fail)
       go_wp2;go_ret;exact J'.no m (y.trans (eF.drewN _ _))
      by_cases a1:(c.length:Int)<=I
      ·have m:=eD (P (by unfold Sm;rw[kD (by omega:¬I<(c.length:Int))];simp));have aD:=kD ao;have a2:=jU a1;clear s0 s1 s2;go_wp2;go_quiet (fail)
       go_wp2;go_ret;exact J'.no m (y.trans (eF.drewN _ _))
      ·obtain⟨k,rfl⟩:=Dl (by omega:0<=I);have ap:k<c.length:=by omega
       have aD:=kD ao;have a2:decide (c.length<=k)=false:=kD (by omega);obtain⟨v,w,rfl,bf,hy⟩:=HA.Dt ap;have aE:c.getD k rz=c[k]:=by rw[jx,gg ap];rfl
       have aF:=HF _ (eU ap);have x:Sm a.length f g c j t k=(pT c[k]&&decide (gZ c[k].name%a.length=j)&& !sX f g (gZ c[k].name)):=by unfold Sm;rw[uv,aE,jU (by omega:t<(k:Int)),jU (by omega:(k:Int)<(c.length:Int))];simp
       clear aE;generalize c[k]=d at*;have C:=eD (xT d);have aq:d.name.size<=maxLen:=by have:=aF.name;unfold maxLen;omega
       have ad:=su d.name;obtain⟨h0,h1,h2,h3,h4,h5,h6,h7,h8⟩:=hy.ext y;obtain⟨name,aG,aH,kind,aI,aJ,aK,aL,size⟩:=d;simp only at h0 h1 h2 h3 h4 h5 h6 h7 h8 aq ad x;simp only[iV.eL] at C;have e0:∀b:EW wr,b.w.cell? (eJ tb 0)=some (.slice (some (eJ V W)) a.length n):=λb=>b.cell s0;have e1:∀b:EW wr,b.w.cell? (eJ tb 1)=some (.slice l f.length wc):=λb=>b.cell s1;have e2:∀b:EW wr,b.w.cell? (eJ tb 2)=some (eE g):=λb=>b.cell s2;have g0:∀b:EW wr,b.w.cell? (eJ v (w+k*9))=some (eV name):=λb=>b.cell h0;have g1:∀b:EW wr,b.w.cell? (eJ v (w+k*9+1))=some (eV aG):=λb=>b.cell h1;have g2:∀b:EW wr,b.w.cell? (eJ v (w+k*9+2))=some (fz aH):=λb=>b.cell h2;have g3:∀b:EW wr,b.w.cell? (eJ v (w+k*9+3))=some (eE kind):=λb=>b.cell h3;have g4:∀b:EW wr,b.w.cell? (eJ v (w+k*9+4))=some (fz aI):=λb=>b.cell h4;have g5:∀b:EW wr,b.w.cell? (eJ v (w+k*9+5))=some (eE aJ):=λb=>b.cell h5;have g6:∀b:EW wr,b.w.cell? (eJ v (w+k*9+6))=some (fz aK):=λb=>b.cell h6;have g7:∀b:EW wr,b.w.cell? (eJ v (w+k*9+7))=some (eE aL):=λb=>b.cell h7;have g8:∀b:EW wr,b.w.cell? (eJ v (w+k*9+8))=some (eE size):=λb=>b.cell h8;have ae:Hid (∀o,Calls prog 160 #[fV #[.slice (some (eJ V W)) a.length n,.slice l f.length wc,eE g],eV name] o λe s=>e=fH (eE (gZ name%a.length:Nat))/\eF o s):=
        eD (λo=>tD _ a.length n _ _ name o (by omega) (by omega) aq)
       have af:Hid (∀o,Calls prog 233 #[eV name] o λe s=>e=fH (.int .u32 (gZ name:Nat))/\o=s):=eD (λo=>(ui name o aq).mono λe s h=>⟨by rw[ad.1];exact h.1,h.2⟩);have J:Hid (∀o,eF wr o->Calls prog 237 #[fV #[.slice l f.length wc,eE g],.int .u32 (gZ name:Nat)] o λe s=>e=fH (fz (sX f g (gZ name)))/\eF o s):=
        eD (λo A=>AE l wc g f (gZ name) o ad.2 L.out.S0 L.out.Qo ((y.out.trans A).rd L.out.Vm))
       clear hy aF s0 s1 s2 h0 h1 h2 h3 h4 h5 h6 h7 h8 ad;cases z:pT ⟨name,aG,aH,kind,aI,aJ,aK,aL,size⟩
       ·rw[z] at C;have m:=eD (P (by rw[x,z];simp));clear z x;go_wp2;refine lT ?_;repeat(go_big_quiet_step ((first|(go_at_call 232;exact kz (C _))|(go_at_call 160;exact kz (ae _))|(go_at_call 233;exact uf (af _))|(go_at_call 237;exact kz (J _ (EW.ext _))))))
        refine eO ?_;rintro w9 ⟨D,rfl⟩;go_wp2;go_ret;exact J'.no m (y.trans D.ext)
       rw[z] at C;generalize ar:gZ name%a.length=q at*;by_cases B:q=j
       ·subst B;cases K:sX f g (gZ name)
        ·rw[K] at J;have a3:=eD (a0 (by rw[x,z,K];simp));clear z K x ar;go_wp2;refine lT ?_;repeat(go_big_quiet_step ((first|(go_at_call 232;exact kz (C _))|(go_at_call 160;exact kz (ae _))|(go_at_call 233;exact uf (af _))|(go_at_call 237;exact kz (J _ (EW.ext _))))))
         refine eO ?_;rintro w9 ⟨D,rfl⟩;go_wp2;go_roundw
         case rel=>exact⟨r+1,k,by omega,by go_num,by go_num,rfl,by omega,by omega,a3,Y.trans D.ext⟩
         case measure=>simp[intOf];omega
        ·rw[K] at J;have m:=eD (P (by rw[x,K];simp));clear z K x ar;go_wp2;refine lT ?_;repeat(go_big_quiet_step ((first|(go_at_call 232;exact kz (C _))|(go_at_call 160;exact kz (ae _))|(go_at_call 233;exact uf (af _))|(go_at_call 237;exact kz (J _ (EW.ext _))))))
         refine eO ?_;rintro w9 ⟨D,rfl⟩;go_wp2;go_ret;exact J'.no m (y.trans D.ext)
       ·have m:=eD (P (by rw[x,kD B];simp));have G:((q:Int) != (j:Int))=true:=H'.mpr (by omega);clear z x ar;go_wp2;refine lT ?_;repeat(go_big_quiet_step ((first|(go_at_call 232;exact kz (C _))|(go_at_call 160;exact kz (ae _))|(go_at_call 233;exact uf (af _))|(go_at_call 237;exact kz (J _ (EW.ext _))))))
        refine eO ?_;rintro w9 ⟨D,rfl⟩;go_wp2;go_ret;exact J'.no m (y.trans D.ext)
     ·have a4:r=is.length:=by omega
      subst a4;go_wp2;go_roundw
      case rel=>exact⟨j+1,by omega,by go_num,by rw[aX.out],by rw[ak,am];simp only[Es];rw[aA,Jr];rfl,H.out.trans Y.out⟩
      case measure=>simp[intOf];omega
   ·have a5:j=a.length:=by omega
    subst a5;have a6:Hid (qc (a.take a.length)=qc a):=eD (by rw[iT]);have aM:Es a.length f g c 0 a=true:=by rw[ak,Jr];rfl
    have aN:Hid (j5 ⟨p,n,a,l,wc,f,g⟩ c=decide (qc a=(gK c).length)):=eD (by rw[E,aM,aV,jU (by omega:c.length<=512),jU (by omega:1<=a.length),jU aT];simp)
    rw[a6] at*;clear aM;generalize qc a=O at*;go_wp2_with fail
    refine(ya ag au c U ((F.trans H).VE HA) HF (by omega)).mono ?_;rintro e w3 ⟨IA,ic,bg,hc,rfl,aO⟩;have aP:=eD (F.trans (H.trans aO.x));clear aO;by_cases heq:O=(gK c).length
    ·have HY:Hid (j5 ⟨p,n,a,l,wc,f,g⟩ c=true):=eD (by rw[aN,jU heq]);have G:((O:Int) != ((gK c).length:Int))=false:=by rw[heq];simp
     clear heq;go_wp2;go_ret;exact⟨by rw[HY];rfl,aP⟩
    ·have m:Hid (j5 ⟨p,n,a,l,wc,f,g⟩ c=false):=eD (by rw[aN,kD heq]);have G:((O:Int) != ((gK c).length:Int))=true:=H'.mpr (by omega);go_wp2;go_ret;exact J'.no m aP
end
section
open Go.RowKit
theorem Cq(a:Im)(d:lu)(f:eI)(h:Gx f a d)(o:d.gy.length<=a.sc)(p:j5 a.t d.gy=true)(r:∀I∈d.gy,I.Fit)(s:Er d.gC d.inits d.gJ):
 Calls prog 94 #[fV a.eL.toArray] f λe c=>e=fH (eE 0)/\eF f c:=by
 obtain⟨t,u,l⟩:=h.Td;have J:=eD (λc (b:eF f c)=>Nt a d c (h.toGw.ext b));have K:=eD (λc (b:eF f c)=>Nr a c t u d.gC (l.ext b));have L:=eD (λc (b:eF f c)=>Nu a d c (h.toGw.ext b) h.l (zD.ext h.sy b) o);have v:Hid (∀c,eF f c->Calls prog 164 #[fV a.t.eL.toArray,.slice a.SA d.gy.length a.sc] c λe m=>e=fH (eE 0)/\eF c m):=eD (λc b=>(Ka a.t a.SA a.sc d.gy c (h.Vq.ext b) (zD.ext h.sy b) r (by have:=h.ok.gy;omega)).mono λe m M=>by obtain⟨rfl,N⟩:=M;rw[p];exact⟨rfl,N⟩)
 have O:=eD (λc (_:eF f c)=>GH a c h.z9);have P:=eD (λc (_:eF f c)=>J9 a c h.Sk);have Q:=eD (λc (b:eF f c)=>Ns a c t u d.gC (l.ext b) d.inits d.gJ h.n11 h.n12 (b.rd h.rM) (b.rd h.yv) s);have R:a.eL.toArray[5]? =some (.slice a.SA d.gy.length a.sc):=by show some (Value.slice a.SA a.l.length a.sc)=_;rw[h.l]
 have S:a.eL.toArray[13]? =some (.slice a.C9.A 0 a.C9.c):=by show some (Value.slice a.C9.A a.C9.n a.C9.c)=_;rw[h.pI]
 have T:a.eL.toArray[14]? =some (.int .i64 0):=by show some (Value.int .i64 a.T')=_;rw[h.UA]
 have U:a.eL.toArray[6]? =some (.slice a.t.BA a.t.bs.length a.t.bc):=rfl;have V:a.eL.toArray[7]? =some (.slice a.t.WA a.t.ws.length a.t.wc):=rfl;have W:a.eL.toArray[8]? =some (.int .i64 a.t.sh):=rfl;have n:=P5 f a;have w:=eD (eF.alloc f (eN a.eL.toArray 174));have g:=eD (λc (h:eQ c f 174 a.eL.toArray)=>oD h);have x:Hid (a.t.eL.toArray=#[.slice a.t.BA a.t.bs.length a.t.bc,.slice a.t.WA a.t.ws.length a.t.wc,.int .i64 a.t.sh]):=eD rfl;rw[x] at v;clear h o p r s l x;generalize a.eL=i at*;obtain⟨_,_,_,_,_,SA,sc,_,⟨TA,tc,af,TW,ag,ah,ai⟩,_,_,_,_,⟨aj,ak,y⟩,_⟩:=a;simp only at*;go_in;go_wp2_with (refine eK rfl 174 (.tmp 1) rfl _ rfl (fV i.toArray) ?_ ?_)
 ·exact g _ n
 go_wp2_with fail
 refine(J _ w).mono ?_;rintro e w1 ⟨rfl,b⟩;have z:=eD (b.eH n);have A:=eD (w.trans b);clear b n;go_wp2_with (refine eK rfl 174 (.tmp 1) rfl _ rfl (fV i.toArray) ?_ ?_)
 ·exact g _ z
 go_wp2_with fail
 refine(K _ A).mono ?_;rintro e m ⟨rfl,b⟩;have k:=eD (b.eH z);have B:=eD (A.trans b);have y:=k.cell 13 S;have X:=k.cell 14 T;clear b;go_wp2_with (refine eK rfl 174 (.tmp 1) rfl _ rfl (fV i.toArray) ?_ ?_)
 ·exact g _ k
 go_wp2_with fail
 clear y X;refine(L _ B).mono ?_;rintro e w3 ⟨rfl,b⟩;have j:=eD (b.eH k);have C:=eD (B.trans b);have Y:=j.cell 5 R;have Z:=j.cell 6 U;have c7:=j.cell 7 V;have c8:=j.cell 8 W;clear b;go_wp2_with fail
 clear Y Z c7 c8;refine(v _ C).mono ?_;rintro e w4 ⟨rfl,b⟩;have D:=eD (b.eH j);have E:=eD (C.trans b);clear b;go_wp2_with (refine eK rfl 174 (.tmp 1) rfl _ rfl (fV i.toArray) ?_ ?_)
 ·exact g _ D
 go_wp2_with fail
 refine(O _ E).mono ?_;rintro e w5 ⟨rfl,b⟩;have F:=eD (b.eH D);have G:=eD (E.trans b);clear b;go_wp2_with (refine eK rfl 174 (.tmp 1) rfl _ rfl (fV i.toArray) ?_ ?_)
 ·exact g _ F
 go_wp2_with fail
 refine(P _ G).mono ?_;rintro e w6 ⟨rfl,b⟩;have ad:=eD (b.eH F);have H:=eD (G.trans b);clear b;go_wp2_with (refine eK rfl 174 (.tmp 1) rfl _ rfl (fV i.toArray) ?_ ?_)
 ·exact g _ ad
 go_wp2_with fail
 refine(Q _ H).mono ?_;rintro e w7 ⟨rfl,b⟩;have ae:=eD (H.trans b);clear b;go_wp2;go_ret;exact⟨rfl,ae⟩
