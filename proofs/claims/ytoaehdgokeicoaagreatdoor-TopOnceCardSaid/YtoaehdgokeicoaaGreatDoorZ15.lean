/- TopOnce: part 15 of the proof. -/
import Derived.Test.YtoaehdgokeicoaaGreatDoorZ13
set_option maxRecDepth 100000
set_option maxHeartbeats 30000000
set_option linter.all false
namespace Go.Proofs.YtoaehdgokeicoaaGreatDoor
open K9 Z9 Go.Proofs.Tryz
section
variable{w v u W V U:eI}{n k m i j p b c d g N B K G M:Nat}{x y z X Y Z:eS}{D E F:Int}{A C H I:fE}{l L J T:fY}{r s t R S:fe}{f:ik}{a:Act}{O P Q:List Oper}{kB kC:List (eS×fS)}{kM:fS}{kR kS:gh}
section
open Go.RowKit
section
section
variable {α:Type} {f:α->fY} {w:eI} {A:fE} {xs:List α} {i:Nat}
theorem uK(g:∀j,(f j).length=n)(h:Rd w A (fO f xs))(k:i<xs.length)(l:0<n):∃a b,A=some (eJ a b)/\a<w.heap.size/\∀c d,(f xs[i])[c]? =some d->w.cell? (eJ a (b+i*n+c))=some d:=by obtain⟨a,b,m,o,p⟩:=ut g h k l;exact⟨a,b,m,o,λc d r=>by rw[qX];exact p c d r⟩
theorem Vs(r:∀s,(f s).length=9)(h:Rd w A (fO f xs))(t:i<xs.length){d g j k l m n o p:eS}(e:f xs[i]=[d,g,j,k,l,m,n,o,p]):
 ∃a b,A=some (eJ a b)/\a<w.heap.size/\w.cell? (eJ a (b+i*9))=some d/\w.cell? (eJ a (b+i*9+1))=some g/\w.cell? (eJ a (b+i*9+2))=some j/\w.cell? (eJ a (b+i*9+3))=some k/\w.cell? (eJ a (b+i*9+4))=some l/\w.cell? (eJ a (b+i*9+5))=some m/\w.cell? (eJ a (b+i*9+6))=some n/\w.cell? (eJ a (b+i*9+7))=some o/\w.cell? (eJ a (b+i*9+8))=some p:=by obtain⟨a,b,u,v,c⟩:=uK r h t (by decide);rw[e] at c;exact⟨a,b,u,v,c 0 _ rfl,c 1 _ rfl,c 2 _ rfl,c 3 _ rfl,c 4 _ rfl,c 5 _ rfl,c 6 _ rfl,c 7 _ rfl,c 8 _ rfl⟩
theorem Ng(s:∀t,(f t).length=10)(h:Rd w A (fO f xs))(u:i<xs.length){d g j k l m n o p r:eS}(e:f xs[i]=[d,g,j,k,l,m,n,o,p,r]):
 ∃a b,A=some (eJ a b)/\a<w.heap.size/\w.cell? (eJ a (b+i*10))=some d/\w.cell? (eJ a (b+i*10+1))=some g/\w.cell? (eJ a (b+i*10+2))=some j/\w.cell? (eJ a (b+i*10+3))=some k/\w.cell? (eJ a (b+i*10+4))=some l/\w.cell? (eJ a (b+i*10+5))=some m/\w.cell? (eJ a (b+i*10+6))=some n/\w.cell? (eJ a (b+i*10+7))=some o/\w.cell? (eJ a (b+i*10+8))=some p/\w.cell? (eJ a (b+i*10+9))=some r:=by obtain⟨a,b,v,x,c⟩:=uK s h u (by decide);rw[e] at c;exact⟨a,b,v,x,c 0 _ rfl,c 1 _ rfl,c 2 _ rfl,c 3 _ rfl,c 4 _ rfl,c 5 _ rfl,c 6 _ rfl,c 7 _ rfl,c 8 _ rfl,c 9 _ rfl⟩
end
theorem Em(b:Ins)(c:b.Ok)(a:eI):Calls prog 153 #[fV b.eL.toArray] a λe d=>e=fH (eE 0)/\eF a d:=by
 cases c with
 |M8 f h=>exact vK f h a
 |out=>exact Ek a
 |ret=>exact El a
def vL(w:eI)(e:Ending)(w':eI):Prop:=e=fH (ij #[])/\eF w w'
theorem Nh(a:lM)(T:fY)(q:Nat)(d:eI)(l:eQ d q 245 (a.eL++T).toArray)(m:oC d a)(E:∀F∈a.fs, -100<=F.n/\F.n<=100)(ag:a.fs.length<=2)(j:Nat)(ah:∀args d,(callFunc j args).run prog d=.ok (.enter j args) d)(G:∀(g:eI) (i:Ins),i.Ok->eF d g->Calls prog j #[fw q,fV (lL i).toArray] g (vL g)):
 Calls prog 219 #[fw q,.func (.func j) #[fw q] #[]] d (vL d):=by
 have c4:=l.ce 4 (.slice a.FA a.fs a.fc);have U:=eD m.Ej.rd;have V:=eD m.AX;have W:=eD E;have X:=eD G;clear l m E G;go_in;go_wp
 go_loopw [14] (λi wr=>∃c:Nat,c<=a.fs.length/\i=eE c/\eF d wr) (λi _=>a.fs.length- (intOf i).toNat)
 case atStart=>exact⟨0,eX _,rfl,eF.refl _⟩
 case round=>
  obtain⟨c,hk,rfl,b⟩:=hrel;by_cases H:c<a.fs.length
  ·obtain⟨ai,aj,I,l,n,o,p,r,s,t,u,v,w,Y⟩:=Ng uJ (b.rd U) H rfl;rw[I];have x:=eU H;have J:=eD (b.rd (V _ x).rd);have Z:=eD (M9 _ (W _ x));have y:=eD b;obtain⟨k,rfl⟩:∃k,k=wr:=⟨wr,rfl⟩;have ak:(rN a.fs[c].n).length=3:=rfl;generalize rN a.fs[c].n=z at*;generalize a.fs[c].A=K at*;generalize a.fs[c].c=L at*;generalize fI a.fs[c].name=M at*;generalize a.fs[c].sW=N at*;clear b x I;go_wp
   have A:=eF.alloc k (eN #[eV M,eV ⟨#[]⟩,fz false,eE 1,fz false,eE N,fz false,eE 0,eE 0,.slice K 3 L] 127);have O:=eD (y.trans A);have ad:=eD (A.rd J);generalize k.alloc (eN #[eV M,eV ⟨#[]⟩,fz false,eE 1,fz false,eE N,fz false,eE 0,eE 0,.slice K 3 L] 127)=w2 at*;clear n o p r s t u v w Y A J;go_loopw [21] (λB wr=>∃f:Nat,f<=3/\B=eE f/\eF w2 wr) (λB _=>3- (intOf B).toNat)
   case atStart=>exact⟨0,eX _,rfl,eF.refl _⟩
   case round=>
    obtain⟨f,hm,rfl,b⟩:=hrel;by_cases al:f<3
    ·obtain⟨b2,o2,ae,am,n,o,p,r,s,t,u,v,w⟩:=Vs vI (b.rd ad) (show f<z.length by omega) rfl;have P:=Z _ (eU (show f<z.length by omega));generalize z[f]'(by omega)=af at*;subst ae;have Q:=eD (O.trans b);have R:=eD b;have C:=eD (λg (b:eF d g)=>X g af P b);unfold lL at C;clear P b;go_wp
     refine(C _ (Q.trans oP)).mono ?_;rintro e w4 ⟨rfl,S⟩;have D:=eD (R.trans (oP.trans S));clear S n o p r s t u v w C R Q;go_wp2;go_roundw
     case rel=>exact⟨f+1,by omega,by go_num,D⟩
     case measure=>simp[intOf];omega
    ·obtain rfl:f=3:=by omega
     have D:=eD (O.trans b);clear b;go_wp
     go_roundw
     case rel=>exact⟨c+1,by omega,by go_num,D⟩
     case measure=>simp[intOf];omega
  ·obtain rfl:c=a.fs.length:=by omega
   have y:=eD b;clear b;go_wp
   go_end0
   exact⟨rfl,y⟩
end
end
section
open Go.RowKit Go.Shelf
section
section
variable (q:Nat) (i:Ins) (hi:i.Ok) (w:eI)
include hi in
theorem Np:Calls prog 220 #[fw q,fV (lL i).toArray] w (vL w):=by
 have a:=eD (Em i hi);unfold Ins.eL at a;unfold lL;clear hi;go_in;go_wp21
 refine(a _).mono ?_;rintro e c ⟨rfl,b⟩;go_wp2;go_end0
 exact⟨rfl,oP.trans b⟩
theorem GF:Calls prog 221 #[fw q,fV (lL i).toArray] w (vL w):=by
 unfold lL;go_in;go_wp
 go_end0
 exact⟨rfl,eF.alloc _ _⟩
theorem zT:Calls prog 222 #[fw q,fV (lL i).toArray] w (vL w):=by
 unfold lL;go_in;go_wp
 go_end0
 exact⟨rfl,eF.alloc _ _⟩
theorem Nq:Calls prog 149 #[fV (lL i).toArray] w λe a=>e=fH (eE 1)/\eF w a:=by
 unfold lL;go_in;go_wp
 go_ret;exact⟨rfl,eF.alloc _ _⟩
end
theorem QY(a:Int)(b:eI)(d:0<=a)(f:a<=1048576):Calls prog 150 #[eE a] b λe c=>e=fH (eE (jn a))/\b=c:=by
 go_in;go_wp
 go_ret;unfold jn;exact⟨rfl,rfl⟩
theorem GG(c:lM)(k:fY)(q:Nat)(b:eI)(l:eQ b q 245 (c.eL++k).toArray)(m:oC b c)(n:∀o∈c.fs, -100<=o.n/\o.n<=100)(p:c.fs.length<=2):
 Calls prog 147 #[fw q] b (vL b):=by
 have g:=eD (λa (r:eF b a)=>Nh c k q a (r.eH l) (m.ext r) n p);clear l m n p;go_in;go_wp
 refine(g b (eF.refl _) _ (enters_of func220 rfl rfl) (λa d i _=>Np q d i a)).mono ?_;rintro e t ⟨rfl,s⟩;go_wp21
 refine(g t s _ (enters_of func221 rfl rfl) (λa d i _=>GF q d a)).mono ?_;rintro e u ⟨rfl,f⟩;replace f:=s.trans f;go_wp21
 refine(g u f _ (enters_of func222 rfl rfl) (λa d i _=>zT q d a)).mono ?_;rintro e v ⟨rfl,j⟩;replace j:=f.trans j;go_wp2;go_end0
 exact⟨rfl,j⟩
end
end
section
open Go.RowKit Pl
def Bg:List iV:=[gR [105] 2 true 0 24,gR [101] 2 true 24 24]
def wP:List iV:=[gR [102] 0 true 0 24]
theorem VK:tK Bg (rB (gK Bg).length) (gK Bg)=[[]]:=by decide+kernel
theorem UE:tK wP (rB (gK wP).length) (gK wP)=[[0]]:=by decide+kernel
theorem Tg:pG Bg (gK Bg)=[0]:=by decide+kernel
theorem Ti(a:fE)(b:Nat)(c:fE)(d:Nat)(f:fE)(e:Nat):j5 ⟨c,d,[⟨a,b,[]⟩],f,e,[0],6⟩ Bg=true:=by kernel_rfl
theorem Tj:∃a,pG wP (gK wP)=[a]/\a<18446744073709551616/\∀(b:fE) (c:Nat) (d:fE) (f:Nat) (g:fE) (e:Nat),j5 ⟨d,f,[⟨b,c,[0]⟩],g,e,[a],6⟩ wP=true:=
 ⟨(pG wP (gK wP)).headD 0,by decide+kernel,by decide+kernel,λ_ _ _ _ _ _=>by kernel_rfl⟩
theorem NG{a:Tb}(h:a.bs.map Bk.is=[kM]):∃b c,a.bs=[⟨b,c,kM⟩]:=by
 obtain⟨i,j,f,k,wc,l,m⟩:=a;cases f with
 |nil=>cases h
 |cons g d=>cases d with
  |nil=>obtain⟨b,c,is⟩:=g;simp only[hU,jt,zK,gP] at h;exact⟨b,c,by rw[h]⟩
  |cons n d=>simp at h
structure Bh(s:lu):Prop where
 ok:s.Ok
 enc:IE s
 vq:∀x∈s.gy,x.Fit
 right:∀t:Tb,t.bs.map Bk.is=s.mU->t.ws=s.gv->t.sh=6->j5 t s.gy=true
theorem GX(a:gh)(b:Int)(c d:Int)(f:a.length<=64)(g:b=0\/b=2)(i:0<=c/\c<=100)(j:0<=d/\d<=100):(gR a b true c d).Fit:=by
 have:(fI a).size=a.length:=by simp[fI,ByteArray.size]
 refine⟨by simp only[gR];omega,by simp only[gR];decide,by simp only[gR];unfold sM;omega,by simp only[gR];unfold sM;omega,by simp only[gR];unfold sM;omega,by simp only[gR];unfold sM;omega⟩
theorem Kn(a:gh):(mq a).length=a.length+3:=by simp only[mq,sP,fT,iB];omega
theorem EE(a:gh)(b:Int)(c d:Int):(rK (gR a b true c d)).length=a.length+25:=by simp only[rK,sP,gR,fT,iB,fU,jH];omega
theorem uM:Bh jp:=by
 obtain⟨k,l,m,n⟩:=Tj;have a:jp.mU=[[0]]:=UE;have b:jp.gv=[k]:=l;have d:jp.gC.length=24:=by simp[jp,na,rN]
 refine⟨Eb,⟨?_,by rw[a];decide,by rw[a];decide,by rw[b];simp,by rw[b];simpa using m, ?_,by omega⟩, ?_,λo f c g=> ?_⟩
 ·have p:jp.tail.length=22:=by simp only[lu.tail,b,fT,iB,kL,eM,hU,jt,oz,Cy,jH];rfl
  have r:(jp.gy.flatMap rK).length=26:=by simp only[jp,oz,Cy,fT,EE];rfl
  have s:(jp.mU.flatMap It).length=4:=by rw[a];rfl
  have t:(sP rL).length=9:=rfl;have u:(sP jp.name).length=2:=rfl;have v:(jp.ft.flatMap mq).length=0:=rfl;simp only[lu.enc,fT,iB,p,r,s,t,u,v,d];omega
 ·rw[d];exact .inl ⟨rfl,rfl⟩
 ·intro w i;simp only[jp,fm,gp,gq] at i;subst i;exact GX _ _ _ _ (by decide) (.inl rfl) (by decide) (by decide)
 ·rw[a] at f;rw[b] at c;obtain⟨x,y,j⟩:=NG f;obtain⟨z,A,B,C,wc,D,E⟩:=o;simp only at c g j;subst c g j;exact n _ _ _ _ _ _
theorem EF:∀a:fe,((a.map nB).flatMap mq).length=6*a.length
 |[]=>rfl
 |b::a=>by rw[hU,oz,fT,EF a,Kn];simp[nB];omega
theorem Ra(b:Nat)(a:fe)(m:b<=12)(n:a.length<=8)(h:∀o∈a,o<=12):Bh (lz b a):=by
 have d:(lz b a).mU=[[]]:=VK;have f:(lz b a).gv=[0]:=Tg;have i:(lz b a).gC.length=48:=by simp[lz,na,rN]
 have p:(lz b a).ft.flatMap mq=(a.map nB).flatMap mq:=rfl;refine⟨Iv b a m n h,⟨?_,by rw[d];decide,by rw[d];decide,by rw[f];decide,by rw[f];decide, ?_,by omega⟩, ?_,λr g c j=> ?_⟩
 ·have s:(lz b a).tail.length=30:=by have g:(lz b a).inits=[0]:=rfl;have c:(lz b a).gJ=[24]:=rfl;simp only[lu.tail,f,g,c,fT,iB,kL,eM,hU,jt,oz,Cy,jH]
  have t:((lz b a).gy.flatMap rK).length=52:=by simp only[lz,oz,Cy,fT,EE,iw,jH]
  have u:((lz b a).mU.flatMap It).length=2:=by rw[d];rfl
  have v:(sP rL).length=9:=rfl;have w:(sP (lz b a).name).length=5:=by simp only[sP,fT,iB];rfl
  simp only[lu.enc,fT,iB,s,t,u,v,w,p,EF,i];omega
 ·rw[i];exact .inr ⟨0,24,rfl,rfl,by decide,by decide,by decide,by decide⟩
 ·intro x k;simp only[lz,fm,gp,gq] at k;rcases k with rfl|rfl
  ·exact GX _ _ _ _ (by decide) (.inr rfl) (by decide) (by decide)
  ·exact GX _ _ _ _ (by decide) (.inr rfl) (by decide) (by decide)
 ·rw[d] at g;rw[f] at c;obtain⟨y,z,l⟩:=NG g;obtain⟨A,B,C,D,wc,E,F⟩:=r;simp only at c j l;subst c j l;exact Ti _ _ _ _ _ _
theorem Cz{b:Nat->fe}(c:∀a,∀k∈b a,a<k/\k<=n)(i:n<=12)(d:∀a,(b a).length<=8){k:Nat}(j:k<=n):Bh (ii b k):=by
 unfold ii;split
 ·exact uM
 ·exact Ra k _ (by omega) (d k) λf g=>by have:=(c k f g).2;omega
end
section
open Go.RowKit Go.Shelf
def uR:mB:=[245,118]
abbrev Sp(SA:fE)(n sc:Nat)(own:Int):fY:=[.slice SA n sc,eE own,eW,eW,eE 0]
structure vf(w:eI)(B q:Nat)(x:lM)(SA:fE)(sc:Nat)(own:Int)(l:List iV):Prop where
 eH:eQ w q 245 (x.eL++Sp SA l sc own).toArray
 low:B<=q
 row:w.ownsRow B 118 9 (.slice SA l sc) l (fO iV.eL l)
theorem vf.ext{w w':eI}{B q:Nat}{x:lM}{sc:Nat}{own:Int}{l:List iV}(h:vf w B q x A sc own l)(a:eF w w'):vf w' B q x A sc own l:=⟨a.eH h.eH,h.low,a.own h.row⟩
theorem vf.size{w:eI}{B q:Nat}{x:lM}{sc:Nat}{own:Int}{l:List iV}(h:vf w B q x A sc own l):B<=w.heap.size:=eY h.low (lN h.eH.lt)
def CD(w:eI)(B q:Nat)(x:lM)(own:Int)(l:List iV)(e:Ending)(w':eI):Prop:=∃SA sc,e=fH (ij #[])/\vf w' B q x SA sc own l/\CH B uR [] w w'
theorem KC.ext{w w':eI}(h:KC r v w)(c:∀b∈r,b<w.heap.size)(d:eF w w'):KC r v w':=KC.of λb a=>(d.below.block b (c b a)).trans (h.out b a)
theorem KC.grow{c:Option Nat}(h:KC r w v)(f:v.grownBy u c)(d:∀a∈r,some a≠c/\a<v.heap.size):KC r w u:=KC.of λa b=>(f.block a (d a b).2 (d a b).1).trans (h.out a b)
theorem rY(a:iV):a.eL.length=9:=rfl
theorem G0{q:Nat}{G:lM}{own:Int}{a:List iV}(h:vf w n q G A k own a)(c:gh)(g:Int)(X:tY c)(v:1<=c.length)(t:c.length<=64)(Y:g=0\/g=2)(hl:a.length<=1)(p:∀ai∈a,¬ai.name=fI c):
 Calls prog 146 #[fw q,fV #[eV (fI c),eV ⟨#[]⟩,fz false,eE 1,fz false,eE g,fz false,eE 0,eE 0],fz false,eE 100] w (CD w n q G own (a++[gR c g true 0 0])):=by
 have r:=eD h;have H:=eD (λw=>wM c g 0 0 w X v t Y (JC _) (JC _));have aj:=eD p;clear h X v t Y p;unfold gR iV.eL at H;go_in;go_wp2_with fail
 refine(H _).mono ?_;rintro e w2 ⟨rfl,I⟩;have J:=I.eH (eQ.new w 118 #[eV (fI c),eV ⟨#[]⟩,fz false,eE 1,fz false,eE g,fz true,eE 0,eE 0]);have x:=eD ((eF.alloc w _).trans I);have c3:=J.ce 3 (eE 1);have K:=(x.eH r.eH).ce 9 (.slice A a.length k);have ak:Hid (∀b,(Value.slice A a.length k).ownBlock=some b->b<w.heap.size):=eD (λb Z=>(r.row.lt b Z).2);generalize w.heap.size=l at*;have L:=eD J;clear I H J;go_wp2;clear c3 K;go_loopw [31] (λi wr=>∃b:Nat,b<=a.length/\i=eE b/\eF w2 wr) (λi _=>a.length- (intOf i).toNat)
 case atStart=>exact⟨0,eX _,rfl,eF.refl _⟩
 case round=>
  obtain⟨b,Z,rfl,m⟩:=hrel;by_cases ad:b<a.length
  ·obtain⟨d,au,rfl,f,v,t,M,y,z,h5,h6,h7,h8⟩:=Vs rY ((x.trans m).rd (Rd.gY r.row)) ad rfl;have p:=aj _ (eU ad);have c0:=((m.trans (eF.alloc wr (eN (a[b].eL).toArray 118))).eH L).ce 0 (eV (fI c));have s:=eD (m.trans (eF.alloc wr (eN (a[b].eL).toArray 118)));unfold iV.eL at c0 s;generalize a[b]=al at*;obtain⟨name,av,aw,kind,ax,ay,az,aA,size⟩:=al;simp only at v t M y z h5 h6 h7 h8 c0 s p;generalize fI c=nn at*;have aB:=Cp p;clear p m;go_wp2;go_roundw
   case rel=>exact⟨b+1,by omega,by go_num,s⟩
   case measure=>simp[intOf];omega
  ·obtain rfl:b=a.length:=by omega
   have s:=eD (x.trans m);have B:=eD (r.ext s);have N:=m.eH L;have O:=B.eH;obtain⟨j,u⟩:∃j:fY,j=(gR c g true 0 0).eL:=⟨_,rfl⟩;have P:Hid (j.length=9/\∀o∈j,o.oneCell'=true):=eD (by rw[u];exact⟨rfl,by simp[iV.eL,gR,Value.oneCell']⟩);have ae:Hid (∀C,(∃o:KW [q,l] wr,C=o.w)->(loadVar 118 (eJ l 0)).run prog C=.ok (fV j.toArray) C):=eD (λC ⟨o,e⟩=>by subst e;exact(o.eH N (by simp)).load 118 0 j (by rw[u];rfl) _ underlying118 rfl (by rw[u];kernel_rfl))
   have K:=λo:KW [q,l] wr=>o.cell (O.ce 9 (.slice A a.length k)) (by simp);have am:Hid (∀d∈[q,l],some d≠(Value.slice A a.length k).ownBlock):=eD (λd f e=>by
    have t:=ak d e.symm;simp only[fm,gp,gq] at f;rcases f with rfl|rfl
    ·obtain⟨cs,aC,fr,M,y⟩:=tO B.row e.symm;have z:=O.symm.trans M;simp only[fd,yV] at z;rw[<-z.2.1] at y;simp at y
    ·omega)
   have an:=eD u;have HG:=eD N;clear m O N u L x;go_wp2;refine gU [q,l] [0,1,2,3,4,5] [6,7,8,9,10] 2 ?_;iterate 5 (go_big_quiet_step (fail))
   refine fR rfl 118 (.tmp 5) rfl _ _ rfl ae (by simp[Act.put];rfl) ?_;refine eO ?_;clear K ae;have D:=eD (B.ext (eF.drew wr));have ao:=eD (s.trans (eF.drew wr));have af:Hid (KC [q,l] wr (World.drew wr)):=eD (KC.of λ_ _=>rfl);have Q:Hid (∀d∈[q,l],d<(World.drew wr).heap.size):=eD (λd f=>by
    simp only[fm,gp,gq] at f;rcases f with rfl|rfl
    ·exact D.eH.lt
    ·exact HG.lt)
   generalize World.drew wr=R at*;refine gH ?_;refine jF rfl 165 118 (.tmp 65) rfl j 9 rfl underlying165 (by kernel_rfl) P.1 (by decide) ?_;go_wp2;refine⟨af.ext Q (eF.alloc _ _), ?_⟩;refine gH ?_;go_wp2_with (at_builtin;go_loud(refine Ba rfl _ _ rfl D.row D.size rfl j rfl P.1 P.2 (by omega) ?_))
   intro v4 E S T _;obtain⟨U,V,rfl⟩:=eR S;have ag:=eD ((af.ext Q (eF.alloc _ _)).grow T (λd f=>⟨am d f,by rw[fM];have:=Q d f;omega⟩));have ap:Hid (CH n uR [] R E):=eD ((CH.fg (eF.alloc R _)).fk (CH.grown T ((eF.alloc R _).own D.row) (by decide)));have F:eQ E q 245 (G.eL++Sp A a.length k own).toArray:=(ag.out.out q (by simp)).trans B.out.eH;have f9:=F.frozen 9;have k9:=F.ce 9 (.slice A a.length k);have W:=eD F;have aq:=eD S;clear S T F;go_wp2;refine⟨ag, ?_⟩;refine jm ?_;go_wp2;go_end0
   have ah:(a++[gR c g true 0 0]).length=a.length+1:=by simp
   have ar:CH n uR [] E (E.setCell (eJ q 9) (.slice U (a.length+1) V)):=CH.set W r.low (by decide) 9 _;refine⟨U,V,rfl,⟨?_,r.low, ?_⟩,(CH.fg ao).fk (ap.fk ar)⟩
   ·rw[ah];exact W.set 9 _
   ·rw[ah,hZ];have:=il aq W (by decide) (i:=9) (.slice U (a.length+1) V);rw[an] at this;simpa[fO] using this
end
section
open Go.RowKit Go.Maps
def OV.pl(o:OV):OV:=o.re none 0 none 0 none 0
def LZ(t:TL)(fb:Nat):Prop:=t.m3≠t.m1/\t.m3≠t.m2/\t.m3≠fb
structure y'(s s':LS):Prop where
 rs:oh s.rs s'.rs
 iQ:s'.tl.iQ.map (λx=>(x.1,x.2.1))=s.tl.iQ.map (λx=>(x.1,x.2.1))
 D:s'.D=s.D
 fn:s'.fn=s.fn
 fl:s'.fl=s.fl
 os:s'.os.map OV.pl=s.os.map OV.pl
 scope:s'.scope=s.scope
 last:s'.last=s.last
 inits:s'.inits=s.inits
 gF:s'.gF=s.gF
 md:LZ s'.tl s'.fb
def Bt(w:eI)(s:LS)(ex:List (eS×fS))(e:Ending)(w':eI):Prop:=∃p s',e=fH (fw p)/\it w' w p s' ex/\y' s s'/\eF w w'
theorem px{p:Nat}{b:LS}(h:it w n p b kB){a:OV}(c:a∈b.os){q:eS×fS}(d:q∈a.rows):w.ownsRow 0 3 1 q.1 q.2 (ints q.2):=
 h.ints.mem (by simp only[LS.rows,nO,fm,gu,rA];exact .inr (.inr (.inl ⟨a,c,d⟩)))
theorem IU{w:eI}{B:Nat}{n c:Nat}{A:fE}(h:w.ownsRow B f 1 (.slice A n c) n l):Rd w A l/\(A=none->n=0):=by
 refine⟨Rd.fC h,λb=> ?_⟩;subst b;obtain⟨g,d|⟨i,j,k,a,_⟩⟩:=h
 ·injection d.1
 ·injection a with a;cases a
theorem Uc{c:Nat}{A:fE}{xs:fe}(h:w.ownsRow n 3 1 (.slice A xs c) (eM xs).length (ints (eM xs))):Rd w A (ints (eM xs))/\(A=none->xs.length=0):=IU (by rw[fv] at h;exact h)
theorem ET{B0:Nat}{L:mB}(i:B0<=n)(j:f∈L):∀(d:List (Nat×eS)) {b:eI} {c:kx},eQ b n f c->eQ (d.foldl (λb a=>b.setCell ⟨n,a.1,none⟩ a.2) b) n f (d.foldl (λc a=>c.setIfInBounds a.1 a.2) c)/\CH B0 L [] b (d.foldl (λb a=>b.setCell ⟨n,a.1,none⟩ a.2) b)
 |[],b,c,g=>⟨g,CH.refl _ _ _ _⟩
 |a::d,b,c,g=>by obtain⟨k,l⟩:=ET i j d (g.set a.1 a.2);exact⟨k,(CH.set g i j a.1 a.2).fk l⟩
structure UJ(w0:eI)(w:eI)(s:LS)(pc:Nat)(ex:List (eS×fS))(k:Nat):Prop where
 mem:∃s',it w w0 pc s' ex/\y' {s with os:=s.os.take k} s'/\s'.os.length=k
 ext:eF w0 w
theorem UJ.step{w2 w3 w4:eI}{B0 p0:Nat}{b a:LS}{k:Nat}(y:k<b.os.length)(f:it v w n a kB)(z:y' {b with os:=b.os.take k} a)(g:a.os.length=k)(m:eF w v){o':OV}(A:o'.pl=(b.os[k]).pl)(i:eF v w2)(o:fo v w2 o'.rows){c:fE}{d:Nat}(B:w3.ownsRow w 177 27 (.slice c (k+1) d) (k+1) (la a.os++o'.eL))(C:w2.grownBy w3 (Value.ownBlock (.slice a.oA a.os a.oc)))(p:eQ w3 n 97 a.cells)(r:w4=w3.setCell (eJ n 6) (.slice c (k+1) d)):UJ w w4 b n kB (k+1):=by
 have D:=m.size;have d1:CH w [177] [] w2 w3:=CH.grown C (i.own f.row) (by decide);have d2:CH w.heap.size [97] [] w3 w4:=by rw[r];exact CH.set p f.low (by decide) _ _
 have s:CH w lB [] v w4:=((CH.fg i).fk (d1.mono (by decide) (λ_ h=>h))).fk (d2.mono (by decide) (λ_ h=>h));have E:fo 0 w4 ((a.re c d (a.os++[o']) a.sA a.sc a.scope a.last a.inits a.lA a.lc a.gF).rows++kB):=by have j:=f.ints.add i o (eX _);have F:=(j.ch d1).ch d2;refine F.iU ?_;simp only[LS.rows,LS.mz,LS.nD,zX,oz,Cy,ox,nO,iK];exact((List.perm_append_left_iff _).2 wT).cons _ |>.cons _
 have G:w4.ownsRow w 177 27 (.slice c (a.os++[o']).length d) (a.os++[o']).length (la (a.os++[o'])):=by have j:=d2.own B;simpa[la,fO,g] using j
 refine⟨⟨_,f.km (oA:=c) (oc:=d) (os:=a.os++[o']) (sA:=a.sA) (sc:=a.sc) (scope:=a.scope) (last:=a.last) (inits:=a.inits) (lA:=a.lA) (lc:=a.lc) (gF:=a.gF) s (λT h=>h) ?_ G E ?_, ?_,by simp[g]⟩,s.lP m (fJ _)⟩
 ·rw[r];have:=p.set 6 (.slice c (k+1) d);simpa[LS.cells,g] using this
 ·intro t H;obtain⟨q,u,x⟩:=fu.1 H;simp only[LS.rows,LS.mz,LS.nD,zX,oz,Cy,ox,fm,gu] at u;have l:q∈a.rows->w.heap.size<=t:=λh=>f.ku t (fu.2 ⟨q,h,x⟩);rcases u with h|h|h|h
  ·exact l (by simp only[LS.rows,LS.mz,fm];exact .inl h)
  ·exact l (by simp only[LS.rows,LS.nD,fm];exact .inr (.inl h))
  ·exact l (by simp only[LS.rows,fm];exact .inr (.inr h))
  ·exact eY D (o.lt (fu.2 ⟨q,h,x⟩)).1
 ·obtain⟨I,J,K,L,M,N,O,P,Q,R,S⟩:=z;refine⟨I,J,K,L,M, ?_,O,P,Q,R,S⟩;have:b.os.take (k+1)=b.os.take k++[b.os[k]]:=by rw[List.take_add_one];simp[gg y]
  simp only[this,iC,hU,jt,A];exact congrArg (· ++_) N
theorem KT{w:eI}{B p:Nat}{a:LS}(h:it w B p a kB)(J:a.rs.length<4096)(an:∀aX∈a.rs,0<aX.bs.length)(ht:a.tl.iQ.length<=1)(ho:a.os.length<=1000)(a6:a.scope.length<=1000/\a.gF.length<=1000)(hn:∀j∈a.os,j.eP.length<=1000/\j.group.length<=1000):Calls prog 176 #[fw p] w (Bt w a kB):=by
 have g:=eD h;have c0:=h.eH.ce 0 (fw a.sp);have c1:=h.eH.ce 1 (fw a.tp);have c2:=h.eH.ce 2 (fw a.fp);have c3:=h.eH.ce 3 (eW);have c4:=h.eH.ce 4 (eW);have c5:=h.eH.ce 5 (fz false);have c6:=h.eH.ce 6 (.slice a.oA a.os.length a.oc);have c7:=h.eH.ce 7 (.slice a.sA a.scope.length a.sc);have c8:=h.eH.ce 8 (eE (a.last:Nat));have c9:=h.eH.ce 9 (eE (a.inits:Nat));have ao:=h.eH.ce 10 (.slice a.lA a.gF.length a.lc);have V:=eD (Uc (A:=a.sA) (c:=a.sc) (xs:=a.scope) (h.ints.mem (p:=a.mz) (by simp[LS.rows])));have W:=eD (Uc (A:=a.lA) (c:=a.lc) (xs:=a.gF) (h.ints.mem (p:=a.nD) (by simp[LS.rows])));clear h;have ap:=eD an;have HN:=eD hn;clear an hn;go_in;go_wp
 have aq:=eQ.new w 97 #[fw a.sp,fw a.tp,fw a.fp,eW,eW,fz false,.slice a.oA a.os.length a.oc,.slice a.sA a.scope.length a.sc,eE (a.last:Nat),eE (a.inits:Nat),.slice a.lA a.gF.length a.lc];have ar:=fM w (eN #[fw a.sp,fw a.tp,fw a.fp,eW,eW,fz false,.slice a.oA a.os.length a.oc,.slice a.sA a.scope.length a.sc,eE (a.last:Nat),eE (a.inits:Nat),.slice a.lA a.gF.length a.lc] 97);have au:=eF.alloc w (eN #[fw a.sp,fw a.tp,fw a.fp,eW,eW,fz false,.slice a.oA a.os.length a.oc,.slice a.sA a.scope.length a.sc,eE (a.last:Nat),eE (a.inits:Nat),.slice a.lA a.gF.length a.lc] 97);generalize w.alloc (eN #[fw a.sp,fw a.tp,fw a.fp,eW,eW,fz false,.slice a.oA a.os.length a.oc,.slice a.sA a.scope.length a.sc,eE (a.last:Nat),eE (a.inits:Nat),.slice a.lA a.gF.length a.lc] 97)=k at*;try rw[<-ar]
 clear ar;have b:=eD au;have av:=eD aq;have e0:=oO (b.cell c0);have X:=oO (b.cell c1);have e2:=oO (b.cell c2);have e7:=oO (b.cell c7);have aY:=oO (b.cell ao);clear c0 c1 c2 c3 c4 c5 c7 c8 c9 ao au aq;refine xO [0,1,2,3,5,6,7,8,10,11,12,13,15,16,17,18,20,21,22,23] [4,9,14,19,24,25,26,27,28,29,30,31,32,33,34] 4 ?_;repeat(go_big_quiet_step (fail))
 refine eO ?_;clear e0 X e2 e7 aY;have K:=eD (eF.drew k);generalize World.drew k=v0 at*;refine gH ?_;go_wp
 refine(G5 B a.sp a.rs a.rv v0 (g.vH.ext (b.trans K)) J ap).mono ?_;rintro e v1 ⟨Y,aZ,a1,rfl,s1,aw,x1⟩;have z:=eD (K.trans x1);have ax:=eD (s1.mono (eY b.size K.size));have ay:=eD aw;clear s1 aw x1;go_wp2;refine⟨⟨⟨_,z⟩,rfl⟩, ?_⟩;refine gH ?_;go_wp
 refine(KQ (g.rT.ext (b.trans z)) ht).mono ?_;rintro e v2 ⟨Z,t2,rfl,s2,az,r,aA,aB⟩;have M:=eD (And.intro aA (And.intro aB s2.rj.lt));clear aA aB;have C:=eD (z.trans r);have aC:=eD (ax.ext r);have aD:=eD (s2.mono (eY b.size z.size));have aE:=eD az;clear s2 az r ax;go_wp2;refine⟨⟨⟨_,C⟩,rfl⟩, ?_⟩;refine gH ?_;go_wp
 refine(AP B a.fp a.fb a.fn a.D a.fl v2 (g.qb.ext (b.trans C))).mono ?_;rintro e v3 ⟨p3,b3,rfl,s3,N⟩;have aF:Hid (LZ t2 b3):=eD ⟨λe=>M.1 e.symm,λe=>M.2.1 e.symm,λe=>by have h1:=M.2.2;have h2:=s3.yn;omega⟩;clear M;have t:=eD (C.trans N);have aG:=eD (aC.ext N);have aH:=eD (aD.ext N);have aI:=eD (s3.mono (eY b.size C.size));clear s3 N aC aD;go_wp2;refine⟨⟨⟨_,t⟩,rfl⟩, ?_⟩;refine gH ?_;go_wp
 refine(lE a.sA a.scope.length a.sc (ints (eM a.scope)) v3 V.2 (by simp[ints,eM]) ((b.trans t).rd V.1) (jP _) (by omega)).mono ?_;rintro e v4 ⟨v',rfl,O,u⟩;obtain⟨D,E,rfl⟩:=eR O;have v:=eD (t.trans u);have aJ:=eD (((g.ints.ext (b.trans t)).sub (Oi _ _)).add u (.one (by rw[fv];exact O)) (eX _));have aK:=eD (fq O (eY b.size t.size));have aL:=eD (aG.ext u);have aM:=eD (aH.ext u);have aN:=eD (aI.ext u);clear O u aG aH aI;go_wp2;refine⟨⟨⟨_,v⟩,rfl⟩, ?_⟩;refine jm ?_;go_wp
 refine(lE a.lA a.gF.length a.lc (ints (eM a.gF)) v4 W.2 (by simp[ints,eM]) ((b.trans v).rd W.1) (jP _) (by omega)).mono ?_;rintro e v5 ⟨v',rfl,Q,n⟩;obtain⟨F,G,rfl⟩:=eR Q;have f:=(v.trans n).eH av;have f0:=f.frozen 0;have f1:=f.frozen 1;have f2:=f.frozen 2;have f6:=f.frozen 6;have f7:=f.frozen 7;have f10:=f.frozen 10;have k0:=f.ce 0 (fw a.sp);have k1:=f.ce 1 (fw a.tp);have k2:=f.ce 2 (fw a.fp);have k6:=f.ce 6 (.slice a.oA a.os.length a.oc);have k7:=f.ce 7 (.slice a.sA a.scope.length a.sc);have a7:=f.ce 10 (.slice a.lA a.gF.length a.lc);have d6:=(b.trans (v.trans n)).cell c6;have a8:=za g.eH.lt;obtain⟨ad,s⟩:=ET (B0:=w.heap.size) (L:=[97]) (fJ _) (by decide) [(0,fw Y),(1,fw Z),(2,fw p3),(7,.slice D a.scope.length E),(10,.slice F a.gF.length G),(6,eW)] f;obtain⟨w6,ae⟩:∃w6,w6=List.foldl (λl i=>World.setCell l ⟨w.heap.size,i.1,none⟩ i.2) v5 [(0,.pointer (some ⟨Y,0,none⟩)),(1,.pointer (some ⟨Z,0,none⟩)),(2,.pointer (some ⟨p3,0,none⟩)),(7,.slice D a.scope.length E),(10,.slice F a.gF.length G),(6,.slice none 0 0)]:=⟨_,rfl⟩;rw[<-ae] at ad s;have R:UJ w w6 a w kB 0:=by
  have a0:=fq Q (eY b.size v.size);have hr:fo 0 v5 ([(.slice D a.scope.length E,eM a.scope),(.slice F a.gF.length G,eM a.gF)]++kB):=(aJ.add n (.one (by rw[fv];exact Q)) (eX _)).iU (by rw[iK];exact wT)
  have a2:∀d∈iG [(.slice D a.scope.length E,eM a.scope),(.slice F a.gF.length G,eM a.gF)],w.heap.size<=d:=λd hk=>by
   obtain⟨q,hq,aO⟩:=fu.1 hk;simp only[fm,gp,gq] at hq;rcases hq with rfl|rfl
   ·exact(aK.lt d aO).1
   ·exact(a0.lt d aO).1
  exact⟨⟨⟨Y,aZ,a1,Z,t2,p3,b3,a.fn,a.D,a.fl,none,0,[],D,E,a.scope,a.last,a.inits,F,G,a.gF⟩,
   ⟨ad,fJ _,(aL.out.ext n).ch s (by decide) (by simp),(aM.out.ext n).ch s (by decide),(aN.out.ext n).ch s (by decide),ji _ _ _ _,hr.ch s,a2⟩,
   ⟨ay.out,aE.out,rfl,rfl,rfl,rfl,rfl,rfl,rfl,rfl,aF.out⟩,rfl⟩,s.lP (b.out.trans (v.out.trans n)) (fJ _)⟩
 rw[ae] at R;simp only[List.foldl] at R;clear ad s ae;have aP:=eD R;clear R aF aJ aK aL aM aN ay aE Q n f ap V W av K z C t;go_wp2;go_loopw [45] (λaf wr=>∃d:Nat,d<=a.os.length/\af=eE d/\UJ w wr a w kB d) (λaf _=>a.os.length- (intOf af).toNat)
 case atStart=>exact⟨0,eX _,rfl,aP⟩
 case round=>as_aux_lemma=>
  obtain⟨d,hk,rfl,aQ⟩:=hrel;clear aP;by_cases ag:d<a.os.length
  ·obtain⟨⟨o,x,H,ah⟩,m⟩:=aQ;obtain⟨a9,a',hA,hb,aR,_⟩:=jW g.Kq ag;have aS:=eD (aR wr m);have y:=eU ag;have aT:=eD (λl (hx:eF wr l)=>IJ a.os[d] l ((m.trans hx).rd (Uc (px g y (q:=OV.nf a.os[d]) (gM ..))).1) ((m.trans hx).rd (Uc (px g y (q:=OV.m6 a.os[d]) (gD _ (gM ..)))).1)
    (Uc (px g.out y (q:=OV.nf a.os[d]) (gM ..))).2 (Uc (px g.out y (q:=OV.m6 a.os[d]) (gD _ (gM ..)))).2 (HN.out _ y))
   have a3:=eD (λ(w2 w3 w4:eI) (o':OV)=>UJ.step (w2:=w2) (w3:=w3) (w4:=w4) (B0:=0) (p0:=0) ag x H ah m (o':=o'));have S:=eD x;have HE:=eD m;have ai:=eD ah;rw[hA];clear aR y x H ah m;generalize a.os[d]=j at*;have bz:=eQ.new wr 177 KM;go_wp2_with (first|(refine eK rfl 177 (.tmp 47) rfl _ rfl (xd j) ?_ ?_)|(refine eG rfl 177 (.tmp 5) (.tmp 48) rfl wr rfl j.eL rfl bz (j4 _) (by rw[gx];exact iR) (by rw[gx];rfl) ?_))
   ·exact aS
   intro k b1 g1;have aj:=(fi.grown g1).ext (eF.alloc _ _);have ak:=eD aj;have e6:∀i:EW k,i.w.cell? (eJ w 6)=some (.slice o.oA o.os.length o.oc):=λi=>i.cell (aj.cell (S.eH.cell 6 rfl));have aU:Hid (∀l,(∃i:EW k,l=i.w)->(loadVar 177 (eJ wr 0)).run prog l=.ok (xd j) l):=eD (λl ⟨i,hu⟩=>by subst hu;exact(i.ext.eH b1).fK (P:=prog) 177 _ underlying177 rfl (by rw[gx];exact iR))
   clear g1 bz aS b1 aj;go_wp
   refine xO [0,1,2] [3,4,5,6,7] 2 ?_;iterate 2 (go_big_quiet_step (fail))
   refine fR rfl 177 (.tmp 5) rfl _ _ rfl aU (by simp[Act.put];rfl) ?_;refine eO ?_;clear e6 aU;refine gH ?_;go_wp
   refine(aT _ (ak.trans (eF.drew k))).mono ?_;rintro e v2 ⟨nA,nc,gA,gc,bA,bc,rfl,aV,r⟩;have I:=eD (ak.trans ((eF.drew k).trans r));have a4:=eD (aV.mono (eY ak.size (eF.drew k).size));have aW:=eD ((eF.drew k).trans r);have a5:Hid ((j.re nA nc gA gc bA bc).pl=j.pl):=eD rfl;clear aV r aT;generalize j.re nA nc gA gc bA bc=o' at*;go_wp2;refine⟨⟨⟨_,aW⟩,rfl⟩, ?_⟩;refine gH ?_;refine ng rfl 95 177 1 _ rfl [o'.eL] 27 (by simp[go_sem,xd]) rfl underlying95 (by kernel_rfl) (by intro bb J;simp only[fF] at J;subst J;rfl) (by decide) ?_;have X:([o'.eL].flatMap id)=o'.eL:=by simp
   rw[X];go_wp2;refine⟨⟨⟨_,aW.trans (eF.alloc _ _)⟩,rfl⟩, ?_⟩;refine jm ?_;have al:=eD (I.eH S.eH);go_wp2_with (at_builtin;go_loud(refine Bb rfl _ _ rfl (I.own S.row) (eY HE.size I.size) rfl o'.eL rfl (gx _) (j4 _) (by rw[ai];omega) ?_))
   intro v3 w3 T g3 k3;obtain⟨A',c',rfl⟩:=eR T;have U:=(fi.grown g3).eH (al.alloc _) (λh=>oS (I.own S.row) al (by decide) h.symm);have am:=eD (a3 _ _ _ o' a5 (I.trans (eF.alloc _ _)) (a4.ext (eF.alloc _ _)) (by rw[ai] at T;exact T) g3 U rfl);have c6:=U.ce 6 (.slice o.oA o.os.length o.oc);have f6:=U.frozen 6;rw[ai] at*;clear U T g3 k3 al;go_wp
   go_roundw
   case rel=>exact⟨d+1,by omega,by go_num,am⟩
   case measure=>simp[intOf];omega
  ·obtain rfl:d=a.os.length:=by omega
   obtain⟨⟨o,x,H,_⟩,m⟩:=aQ;have am:Hid (Bt w a kB (fH (fw w)) wr):=eD ⟨_,o,rfl,x,by simpa[iT] using H,m⟩;clear x H m;go_wp
   go_ret;exact am
end
section
open Go.RowKit
section
theorem xu{c:Type}{a:List c}{d b:c}:b∈a.take n++d::a.drop n↔b=d\/b∈a:=by
 have h:b∈a↔b∈a.take n\/b∈a.drop n:=by rw[<-gu,oa]
 rw[gu,fm,h];constructor
 ·rintro(h|h|h)
  ·exact .inr (.inl h)
  ·exact .inl h
  ·exact .inr (.inr h)
 ·rintro(h|h|h)
  ·exact .inr (.inl h)
  ·exact .inl h
  ·exact .inr (.inr h)
theorem sB.Sw{a:List Rg}(h:sB a){b q:Rg}(k:b∈a)(l:q∈a)(e:b.at_=q.at_):b=q:=by
 obtain⟨c,d,rfl⟩:=gN k;obtain⟨f,g,rfl⟩:=gN l;have j:=jJ.1 h.pw;have m:=h.ok _ (eU d);have n:=h.ok _ (eU g);rcases Az c f with i|rfl|i
 ·have:=j c f d g i;unfold Rg.ka at this;omega
 ·rfl
 ·have:=j f c g d i;unfold Rg.ka at this;omega
section
variable {G:Nat->fe} {rs:List Rg} {os:List OV} {stk:fS}
theorem kW.UK(h:kW G rs os stk)(c:os.length<=20):iq 64 rs 4096+64<=4294967296/\rs.length<4096:=by have d:=Gg rs 4096 h.wf.pw (λa b=>h.wf.ok a b) (by decide);have f:=h.sum;have g:=h.len;exact⟨by omega,by omega⟩
theorem kW.more(h:kW G rs os stk){o:OV}{g c:Nat}{t:gh}(s:t=(ii G o.fQ).gC)(y:t.length<=64)(j:o.base=iq 64 rs 4096):kW G (yi rs (iq 64 rs 4096) g c t) (os++[o]) stk:=by
 subst s;have k:((ii G o.fQ).gC++iF (64- (ii G o.fQ).gC.length)).length=64:=by rw[fT];unfold iF;rw[D8];omega
 have u:=h.wf.Vp (g:=iq 64 rs 4096) (h':=64) rfl (by decide) (by decide) (r:=⟨iq 64 rs 4096,5,g,c,(ii G o.fQ).gC++iF (64- (ii G o.fQ).gC.length)⟩) rfl (by simp only[k];rfl);unfold yi;generalize d:(⟨iq 64 rs 4096,5,g,c,(ii G o.fQ).gC++iF (64- (ii G o.fQ).gC.length)⟩:Rg)=r at*;have v:r.at_=iq 64 rs 4096:=by rw[<-d]
 have l:r.iU=5:=by rw[<-d]
 have m:r.bs=(ii G o.fQ).gC++iF (64- (ii G o.fQ).gC.length):=by rw[<-d]
 refine⟨u,λf b=> ?_, ?_, ?_, ?_,λq a=> ?_,λn i=> ?_⟩
 ·rcases gu.1 b with b|b
  ·obtain⟨q,a,e⟩:=h.each f b;exact⟨q,xu.2 (.inr a),e⟩
  ·obtain rfl:=fF.1 b;exact⟨r,xu.2 (.inl rfl),v.trans j.symm,l,m⟩
 ·rw[iC,kF];refine⟨h.yD,by simp,λn i z p e=> ?_⟩;obtain⟨f,b,rfl⟩:=fy.1 i;simp only[hU,jt,fF] at p;subst p;obtain⟨q,a,A,_⟩:=h.each f b;obtain⟨B,C,D,w,x⟩:=pY 64 (by decide) rs 4096 h.wf.pw (λq a=>h.wf.ok q a) (by decide);have E:=h.wf.ok q a;rw[j] at e;rw[<-oa (i' (iq 64 rs 4096) rs) rs] at a;rcases gu.1 a with a|a
  ·have:=w q a;unfold Rg.ka at this;omega
  ·have:=x q a;omega
 ·rw[QC,m,k,fT,ti];have:=h.sum;omega
 ·have F:=h.len;simp only[fT,iw,ig,jE,jH] at*;omega
 ·rcases xu.1 a with rfl|a
  ·exact .inr (.inr l)
  ·exact h.uG q a
 ·obtain⟨q,a,e⟩:=h.stack n i;exact⟨q,xu.2 (.inr a),e⟩
theorem kW.nS(h:kW G rs os stk){i a:Nat}(u:i<os.length)(f:a<rs.length)(v:rs[a].at_=os[i].base)(g:List OV)(x:∀k∈g,∃j,∃l:j<os.length,j≠i/\k.base=os[j].base/\k.fQ=os[j].fQ)(y:(g.map OV.base).Nodup)(M:g.length+1=os.length):kW G (rs.take a++rs.drop (a+1)) g stk:=by
 have m:(rs.take a++rs.drop (a+1)).Sublist rs:=by rw[<-Ty];exact Ro rs a
 have z:=h.wf.ok _ (eU f);obtain⟨N,A,B,C,O⟩:=h.each _ (eU u);have D:=h.wf.Sw A (eU f) (B.trans v.symm);have w:∀q∈rs,q.at_≠rs[a].at_->q∈rs.take a++rs.drop (a+1):=λq d n=>by
  obtain⟨o,P,rfl⟩:=gN d;rcases Az o a with p|rfl|p
  ·exact iL _ (by rw[List.mem_take_iff_getElem];exact⟨o,by omega,rfl⟩)
  ·exact absurd rfl n
  ·exact gT _ (by rw[List.mem_drop_iff_getElem];exact⟨o- (a+1),by omega,by congr 1;omega⟩)
 have Q:rs[a].bs.length=64+(rs[a].bs.length- 64)/\64<=rs[a].bs.length:=by have:0<rs[a].bs.length/\rs[a].bs.length%64=0:=z.2.2;omega
 have R:(rs.map λb=>b.bs.length).sum=rs[a].bs.length+((rs.take a++rs.drop (a+1)).map λb=>b.bs.length).sum:=by
  have p:rs=rs.take a++rs[a]::rs.drop (a+1):=by rw[<-sN f,oa]
  have E:=congrArg (λF:List Rg=>(F.map λb=>b.bs.length).sum) p;simp only[iC,MO,hU,DK] at E ⊢;omega
 refine⟨⟨h.wf.pw.sublist m,λb r=>h.wf.ok b (m.mem r)⟩,λk H=> ?_,y, ?_, ?_,λb r=>h.uG b (m.mem r),λI J=> ?_⟩
 ·obtain⟨j,l,n,s,t⟩:=x k H;obtain⟨q,d,c,K,L⟩:=h.each _ (eU l);refine⟨q,w q d λe=> ?_,c.trans s.symm,K,by rw[t];exact L⟩;rw[v,c] at e;have:=fZ h.yD (i:=j) (j:=i) (by simpa using l) (by simpa using u) (by simpa using e);exact n this
 ·have:=h.sum;omega
 ·have:=h.len;have S:(rs.take a++rs.drop (a+1)).length+1=rs.length:=by rw[fT,ig,jE];omega
  omega
 ·obtain⟨q,d,s,t,c⟩:=h.stack I J;refine⟨q,w q d λe=> ?_,s,t,c⟩;have:=h.wf.Sw d (eU f) e;subst this;rw[<-D] at c;rw[C] at c;cases c
theorem kW.VL(h:kW G rs os stk){f:Nat}{b c:Rg}(o:rs[f]? =some b)(x:b.iU=3)(j:c.at_=b.at_)(k:c.iU=b.iU)(l:c.bs.length=b.bs.length):kW G (rs.set f c) os stk:=by
 obtain⟨y,g⟩:=jS.1 o;have z:∀q∈rs,q.iU≠3->q∈rs.set f c:=λq a p=>by obtain⟨m,n,rfl⟩:=gN a;refine Oj.2 ⟨m,by simpa using n, ?_⟩;rw[xY (λe=>by subst e;rw[g] at p;exact p x)]
 have r:∀q∈rs.set f c,q=c\/q∈rs:=λq a=>by
  rcases qR a with h|h
  ·exact .inr h
  ·exact .inl h
 have s:=mp o;refine⟨⟨?_,λq a=> ?_⟩,λA B=> ?_,h.yD, ?_,by rw[nZ];exact h.len,λq a=> ?_,λd C=> ?_⟩
 ·refine jJ.2 λt D E F H=> ?_;have:=jJ.1 h.wf.pw t D (by simpa using E) (by simpa using F) H;unfold Rg.ka at this ⊢;rw[tk,tk];split<;>split
  ·omega
  ·rename_i d i;subst d;rw[g] at this;rw[j,l];exact this
  ·rename_i d i;subst i;rw[g] at this;rw[j];exact this
  ·exact this
 ·rcases r q a with rfl|a
  ·rw[j,l];exact h.wf.ok b s
  ·exact h.wf.ok q a
 ·obtain⟨q,a,d,i,I⟩:=h.each A B;exact⟨q,z q a (by rw[i];decide),d,i,I⟩
 ·have J:(rs.set f c).map (λb=>b.bs.length)=rs.map λb=>b.bs.length:=Ci (by simp) λt K L=>by
   simp only[jy,tk];split
   ·rename_i d;subst d;rw[l,g]
   ·rfl
  rw[J];exact h.sum
 ·rcases r q a with rfl|a
  ·rw[k];exact h.uG b s
  ·exact h.uG q a
 ·obtain⟨q,a,u,v,w⟩:=h.stack d C;by_cases e:q=b
  ·subst e;exact⟨c,Oj.2 ⟨f,by simpa using y,by simp⟩,j.trans u,l.trans v,k.trans w⟩
  ·obtain⟨m,n,rfl⟩:=gN a;refine⟨rs[m],Oj.2 ⟨m,by simpa using n, ?_⟩,u,v,w⟩;rw[xY (λk=>by subst k;exact e g)]
def OV.st(o:OV):Nat×Nat×Im×Int:=(o.id,o.fQ,o.im,o.base)
theorem uU{os b:List OV}(e:b.map OV.st=os.map OV.st){a:OV}(d:a∈b):∃q∈os,q.id=a.id/\q.fQ=a.fQ/\q.im=a.im/\q.base=a.base:=by have f:=e▸fy.2 ⟨a,d,rfl⟩;obtain⟨q,g,c⟩:=fy.1 f;simp only[OV.st,rH] at c;exact⟨q,g,c⟩
theorem CI{os b:List OV}(e:b.map OV.st=os.map OV.st):b.map OV.id=os.map OV.id/\b.map OV.fQ=os.map OV.fQ/\b.map OV.base=os.map OV.base:=by have c:=congrArg (List.map λa=>a.1) e;have d:=congrArg (List.map λa=>a.2.1) e;have f:=congrArg (List.map λa=>a.2.2.2) e;simp only[jL] at c d f;exact⟨c,d,f⟩
theorem Tz{os a:List OV}(e:a.map OV.st=os.map OV.st):a.length=os.length:=by simpa using congrArg List.length e
theorem kW.congr(h:kW G rs os stk){a:List OV}(e:a.map OV.st=os.map OV.st):kW G rs a stk:=by have b:=Tz e;refine⟨h.wf,λn c=> ?_,by rw[(CI e).2.2];exact h.yD,by rw[b];exact h.sum,by rw[b];exact h.len,h.uG,h.stack⟩;obtain⟨q,d,_,f,_,g⟩:=uU e c;obtain⟨i,j,k,l,m⟩:=h.each q d;exact⟨i,j,k.trans g,l,by rw[<-f];exact m⟩
theorem jD(s:LS):s.gd.map Ob.id=s.os.map OV.id:=by simp only[LS.gd,jL];rfl
theorem sI(a:LS):a.gd.map Ob.fQ=a.os.map OV.fQ:=by simp only[LS.gd,jL];rfl
theorem gG.CJ{B p:Nat}{d a:LS}(h:gG w G n B p d kB stk)(r:it v B p a kC)(s:∀q∈kB,q∈kC){t:Nat}(u:CH t jz [] w v)(e:a.os.map OV.st=d.os.map OV.st)(m:∀b∈a.os,b.eP.length<=8/\b.group.length<=20)(x:∀b∈a.os,∀g∈b.eP,∃q∈d.os,q.id=g)(y:a.scope.Nodup)(z:∀g∈a.scope,∃b∈a.os,b.id=g/\b.lh=true)(A:kW G a.rs d.os kM)(C:a.D=d.D)(o:a.last=d.last)(D:a.inits<=10000)(E:a.gF.length<=20)(F:a.tl.iQ.length<=1):gG v G n B p a kC kM:=by
 refine⟨r,λb i=> ?_,A.congr e,C▸h.fs,by rw[jD,(CI e).1,<-jD];exact h.ids,by rw[sI,(CI e).2.1,<-sI];exact h.qy,h.up,h.n12,h.g8,by rw[o];exact h.yE,D,y,z,λb i g H=> ?_,E,F⟩
 ·obtain⟨q,j,k,f,l,_⟩:=uU e i;have c:=(h.each q j).ch u (λ_ I=>I);exact⟨f▸c.fQ,by rw[<-f,<-l];exact c.im,by rw[<-f,<-l];exact c.tZ,by rw[<-f,<-l];exact c.rows.mono s,by rw[<-k,o];exact c.id,(m b i).1,(m b i).2⟩
 ·obtain⟨q,j,k⟩:=x b i g H;have J:q.id∈a.os.map OV.id:=by rw[(CI e).1];exact fy.2 ⟨q,j,rfl⟩
  obtain⟨K,c,f⟩:=fy.1 J;exact⟨K,c,f.trans k⟩
end
theorem zb{a:Rg}{k:Nat}{A C:gh}(c:a.at_=D)(b:a.bs=A++(kR++C))(d:A.length=k)(f:kR.length=24):a.cut (D+k) 24=kR:=by
 unfold Rg.cut;have e:((D+k)- a.at_).toNat=k:=by omega
 rw[e,b,QA (by omega),tC (by omega),j6,MI (by omega),mZ (by omega)]
theorem tS(a:Int):(j8 (rN a)).length=24:=by rw[na];rfl
theorem kW.zM{b:Nat->fe}{rs:List Rg}{n:List OV}(h:kW b rs n kM){a:OV}(o:a∈n)(t:a.fQ<=12):
 EP rs a.base (ii b a.fQ).inits (if a.fQ=0 then[] else[(a.fQ:Int)])/\EP rs a.base (ii b a.fQ).gJ (if a.fQ=0 then[] else[-(a.fQ:Int)])/\(a.fQ=0->∃m r,qF rs m r (a.base+0) 9)/\4096<=a.base:=by
 obtain⟨r,p,j,l,c⟩:=h.each a o;obtain⟨m,g,rfl⟩:=gN p;have u:=(h.wf.ok _ (eU g)).1;have d:rs[m].bs.length=(ii b a.fQ).gC.length+(64- (ii b a.fQ).gC.length):=by rw[c];simp[iF]
 by_cases f:a.fQ=0
 ·rw[f] at c d ⊢;have i:(ii b 0).gC=j8 (rN 9):=rfl;rw[i,tS] at d;refine⟨.inl ⟨rfl,rfl⟩,.inl ⟨rfl,rfl⟩,λ_=>⟨m,rs[m],gg g,l,by omega,by omega, ?_,by decide,by decide⟩,by omega⟩;exact zb (k:=0) (A:=[]) (C:=iF (64- 24)) j (by rw[c,i,tS];rfl) rfl (tS 9)
 ·rw[fG f,fG f];have s:ii b a.fQ=lz a.fQ (b a.fQ):=by unfold ii;rw[fG f]
  rw[s] at c d ⊢;have i:(lz a.fQ (b a.fQ)).gC=j8 (rN a.fQ)++j8 (rN (-(a.fQ:Int))):=by simp[lz,j8]
  rw[i] at c d;simp only[fT,tS] at c d;refine⟨.inr ⟨0,a.fQ,m,rs[m],rfl,rfl,⟨gg g,l,by omega,by omega, ?_,by omega,by omega⟩,by omega⟩,.inr ⟨24, -(a.fQ:Int),m,rs[m],rfl,rfl,⟨gg g,l,by omega,by omega, ?_,by omega,by omega⟩,by omega⟩,λe=>absurd e f,by omega⟩
  ·exact zb (k:=0) (A:=[]) (C:=j8 (rN (-(a.fQ:Int)))++iF 16) j (by rw[c];simp) rfl (tS _)
  ·exact zb (k:=24) (A:=j8 (rN a.fQ)) (C:=iF 16) j (by rw[c];simp) (tS _) (tS _)
end
end
section
open Go.RowKit Go.Maps
section
theorem my.ext{w w':eI}{B:Nat}{m:Im}{s:lu}(h:my w B m s)(a:eF w w'):my w' B m s:=h.ch (CH.fg (B:=0) (L:=[]) (M:=[]) a) (by simp) (by simp) (by simp) (by simp) (by simp) (by simp) (by simp)
theorem my.mono{w:eI}{B:Nat}{m:Im}{s:lu}(h:my w B m s)(a:n<=B):my w n m s:=by obtain⟨b,c,d⟩:=h.FY;exact {h with FY:=⟨b,c,d.mono a⟩,h':=fq h.h' a,sy:=fq h.sy a,bk:=fq h.bk a,wd:=fq h.wd a,rows:=h.rows.mono a}
theorem CK(h:fI kR=fI kS):kR=kS:=by have:=congrArg (λa:jw=>a.data.toList) h;simpa[fU] using this
theorem fo.VM(h:fo n w kB):fo n w (kB++[(Value.slice none 0 0,[]),(Value.slice none 0 0,[])]):=.of (λa hp=>by
 rcases gu.1 hp with hp|hp
 ·exact h.mem hp
 ·simp only[fm,gp,gq] at hp;rcases hp with rfl|rfl<;>exact ji _ _ _ _) (by rw[jC];simpa[iG,Value.ownBlock] using h.nodup)
def sd(id k:Nat)(m:Im)(a:Int)(bA:fE)(bc:Nat):OV:=⟨id,k,m,a,false,false,none,0,[],none,0,[],0,bA,bc⟩
abbrev LS.more(s:LS)(rs:List Rg)(rv:eS)(oA:fE)(oc:Nat)(o:OV):LS:=(s.rX rs rv).re oA oc (s.os++[o]) s.sA s.sc s.scope (s.last+1) s.inits s.lA s.lc s.gF
section
variable {w:eI} {G:Nat->fe} {N B p:Nat} {s:LS} {ex:List (eS×fS)} {stk:fS}
theorem gG.more(h:gG w G N B p s ex stk){w5 w6 w9:eI}{k:Nat}(H:k<=N)(Q:∀o∈s.os,o.fQ≠k)(am:s.last<9990){m:Im}(z:eF w w5)(A:my w5 w m (ii G k)){g f:Nat}{i:eS}{t:gh}(R:t=(ii G k).gC)(S:j' w6 B s.sp (yi s.rs (iq 64 s.rs 4096) g f t) i)(u:CH B jr [] w5 w6)(v:CH B [97,177] [] w6 w9){j:fE}{l:Nat}{x:fE}{y:Nat}(eH:eQ w9 p 97 (s.more (yi s.rs (iq 64 s.rs 4096) g f t) i j l (sd (s.last+1) k m (iq 64 s.rs 4096) x y)).cells)(T:w9.ownsRow B 177 27 (.slice j (s.os.length+1) l) (s.os.length+1) (la s.os++(sd (s.last+1) k m (iq 64 s.rs 4096) x y).eL)):
 gG w9 G N B p (s.more (yi s.rs (iq 64 s.rs 4096) g f t) i j l (sd (s.last+1) k m (iq 64 s.rs 4096) x y)) (ex++oX m (ii G k)) stk/\CH B jz [] w w9:=by
 have I:=Cz h.up h.n12 h.g8 H;have J:CH B jz [] w w9:=((CH.fg z).fk (u.mono jr.sub (λ_ b=>b))).fk (v.mono (by decide) (λ_ b=>b));have K:=(u.mono jr.sub (λ_ b=>b)).fk (v.mono (by decide) (λ_ b=>b));have U:=(A.TB I.enc).1;have V:=U.toGw.ch K (by decide) (by decide) (by simp);have W:=A.tZ.ch K (by decide) (by decide) (by decide);subst R;generalize X:sd (s.last+1) k m (iq 64 s.rs 4096) x y=o at*;have Y:o.id=s.last+1/\o.fQ=k/\o.im=m/\o.base=iq 64 s.rs 4096/\o.eP=[]/\o.group=[]/\o.rows=[(Value.slice none 0 0,[]),(Value.slice none 0 0,[])]:=by subst X;exact⟨rfl,rfl,rfl,rfl,rfl,rfl,rfl⟩
 obtain⟨Z,n,C,o4,L,o6,M⟩:=Y;have O:(s.more (yi s.rs (iq 64 s.rs 4096) g f (ii G k).gC) i j l o).rows=s.rows++o.rows:=by simp only[LS.rows,LS.mz,LS.nD,zX,oz,Cy,ox,nO]
 have ad:fo 0 w9 ((s.rows++o.rows)++(ex++oX m (ii G k))):=by have P:=(h.mem.ints.add z A.rows (eX _)).VM;rw[<-M] at P;refine((P.ch u).ch v).iU ?_;simp only[iK];refine Rj _ ?_;rw[<-iK];exact wT
 have ae:(s.os++[o]).length=s.os.length+1:=by simp
 have af:it w9 B p (s.more (yi s.rs (iq 64 s.rs 4096) g f (ii G k).gC) i j l o) (ex++oX m (ii G k)):=by
  have h6:=(h.mem.ext z).Vu S u;refine h6.km v (by decide) eH ?_ (by rw[O];exact ad) (by
   rw[O];intro ag d;rw[jC,M] at d;rcases gu.1 d with d|d
   ·exact h.mem.ku ag d
   ·simp[iG,Value.ownBlock] at d)
  rw[ae];simpa[la,fO] using T
 have ah:(s.os.map OV.id).Nodup:=by rw[<-jD];exact h.ids
 have ai:(s.os.map OV.fQ).Nodup:=by rw[<-sI];exact h.qy
 refine⟨⟨af,λc a=> ?_, ?_,h.fs, ?_, ?_,h.up,h.n12,h.g8,by show s.last+1<=_;omega,h.uI,h.LX,λc a=> ?_,λc a aj D=> ?_,h.Nf,h.iQ⟩,J⟩
 ·rcases gu.1 a with a|a
  ·have:=(h.each c a).ch J (λ_ b=>b);exact⟨this.fQ,this.im,this.tZ,this.rows.mono (λ_ b=>iL _ b),⟨this.id.1,Nat.le_succ_of_le this.id.2⟩,this.iO,this.ms⟩
  ·obtain rfl:=fF.1 a;exact⟨by rw[n];exact H,by rw[n,C];exact V,λ_=>by rw[n,C];exact W,λq r=>gT _ (by rw[<-n,<-C];exact r),by rw[Z];exact⟨Om _,fJ _⟩,by rw[L];decide,by rw[o6];decide⟩
 ·exact h.rg.more (o:=o) (by rw[n]) I.ok.QT o4
 ·rw[jD];show((s.os++[o]).map OV.id).Nodup;rw[iC,kF];refine⟨ah,by simp,λak E al F e=> ?_⟩;obtain⟨c,a,rfl⟩:=fy.1 E;simp only[hU,jt,fF] at F;have:=(h.each c a).id.2;omega
 ·rw[sI];show((s.os++[o]).map OV.fQ).Nodup;rw[iC,kF];refine⟨ai,by simp,λak E al F e=> ?_⟩;obtain⟨c,a,rfl⟩:=fy.1 E;simp only[hU,jt,fF] at F;exact Q c a (by omega)
 ·obtain⟨q,r,e⟩:=h.J6 c a;exact⟨q,iL _ r,e⟩
 ·rcases gu.1 a with a|a
  ·obtain⟨q,r,e⟩:=h.Gy c a aj D;exact⟨q,iL _ r,e⟩
  ·obtain rfl:=fF.1 a;rw[L] at D;cases D
end
end
end
section
open Go.RowKit Go.Shelf
structure Rp(x:lM):Prop where
 gB:x.gB=0\/x.gB=1
 iO:1<=x.fs.length/\x.fs.length<=2
 low:∀f∈x.fs,tY f.name/\1<=f.name.length/\f.name.length<=64/\(f.sW=0\/f.sW=2)/\ -100<=f.n/\f.n<=100
 JZ:(x.fs.map xa.name).Nodup
theorem Cm.VN{a:lM}{b:lu}(h:Cm a b):Rp a:=⟨h.gB▸h.ok.gB,h.iO,h.low,h.JZ⟩
def jZ(l:List xa):List iV:=l.map λf=>gR f.name f.sW true 0 0
theorem KU{B q:Nat}{a:lM}{own:Int}(h:vf w B q a A n own [])(l:Rp a)(D:oC w a)(hB:B<=w.heap.size):
 Calls prog 84 #[fw q] w (λe w'=>∃ag,CD w B q a ag (jZ a.fs) e w'):=by
 have ah:=l.gB;have ai:=l.iO;have s:=eD l;have aj:=eD h;have E:=eD D;have c:=h.eH;have c0:=c.ce 0 (eV (fI a.name));have c1:=c.ce 1 (eE a.gB);have c2:=c.ce 2 (.slice a.NA a.ft.length a.nc);have c3:=c.ce 3 (eW);have c4:=c.ce 4 (.slice a.FA a.fs.length a.fc);have c5:=c.ce 5 (eW);have c6:=c.ce 6 (eW);have c7:=c.ce 7 (.slice a.IA a.inits.length a.ic);have c8:=c.ce 8 (.slice a.EA a.gJ.length a.ec);clear h l D c;go_in;go_wp
 clear c0 c1 c2 c3 c4 c5 c6 c7 c8 ah;have t:=eD (eF.alloc w (eN a.eL.toArray 51));have F:=eD (eQ.new w 51 a.eL.toArray);unfold lM.eL at t F;generalize w.alloc (eN #[eV (fI a.name),eE a.gB,.slice a.NA a.ft.length a.nc,eW,.slice a.FA a.fs.length a.fc,eW,eW,.slice a.IA a.inits.length a.ic,.slice a.EA a.gJ.length a.ec] 51)=G at*;generalize w.heap.size=gs at*;go_loopw [31] (λi wr=>∃b A n,b<=a.fs.length/\i=eE (b:Nat)/\vf wr B q a A n own (jZ (a.fs.take b))/\CH B uR [] G wr) (λi _=>a.fs.length- (intOf i).toNat)
 case atStart=>exact⟨0,A,n,eX _,rfl,aj.ext t,CH.refl _ _ _ _⟩
 case round=>
  obtain⟨b,u,v,hk,rfl,d,g⟩:=hrel;have k:CH B uR [] w wr:=(CH.fg t).fk g;by_cases m:b<a.fs.length
  ·obtain⟨ap,aq,H,hb,h0,h1,h2,h3,h4,h5,h6,h7,h8,h9⟩:=Ng uJ ((E.ch k (by decide) (by decide) (by decide) (by decide)).Ej.rd) m rfl;rw[H];obtain⟨I,J,K,L,_,_⟩:=s.low _ (eU m);have M:=iz m;have N:∀O∈jZ (a.fs.take b),¬O.name=fI a.fs[b].name:=λO hy e=>by obtain⟨P,x,rfl⟩:=fy.1 hy;obtain⟨j,hj,rfl⟩:=gN x;simp only[ig] at hj;have:=fZ s.JZ (i:=j) (j:=b) (by simp;omega) (by simpa using m) (by simpa using CK (by simpa[gR] using e));omega
   have Q:=eD (λy:kx=>eF.alloc wr (eN y 127));have R:=eD (λy=>G0 (d.ext (Q y)) a.fs[b].name a.fs[b].sW I J K L (by simp[jZ];omega) N);have ak:Hid (jZ (a.fs.take (b+1))=jZ (a.fs.take b)++[gR a.fs[b].name a.fs[b].sW true 0 0]):=eD (by unfold jZ;rw[M,iC];rfl);have o:=eD g;generalize a.fs[b].A=fA at*;generalize a.fs[b].c=fc at*;generalize a.fs[b].name=nm at*;generalize a.fs[b].sW=ar at*;obtain⟨S,rfl⟩:∃S,S=wr:=⟨wr,rfl⟩;clear H N M d g k I J K L;go_wp
   refine(R _).mono ?_;rintro e T ⟨U,V,rfl,W,X⟩;have al:Hid (vf T B q a U V own (jZ (a.fs.take (b+1)))/\CH B uR [] G T):=eD ⟨ak▸W,o.fk ((CH.fg (Q _)).fk X)⟩;clear W X h0 h1 h2 h3 h4 h5 h6 h7 h8 h9 R;go_wp2;go_roundw
   case rel=>exact⟨b+1,U,V,by omega,by go_num,al⟩
   case measure=>simp[intOf];omega
  ·obtain rfl:b=a.fs.length:=by omega
   rw[iT] at d;have am:(jZ a.fs).length=a.fs.length:=by simp[jZ]
   have z:=g.eH F;have Y:=eD (E.ch k (by decide) (by decide) (by decide) (by decide));have f:=eD d;have o:=eD k;have d9:=d.eH.ce 9 (.slice u (jZ a.fs).length v);have d10:=d.eH.ce 10 (eE own);have an:=d.eH.frozen 10;have d5:=z.ce 5 (eW);rw[am] at d9;have Z:=eD z;clear d g k z;go_wp
   refine wp_loop_rounds 1 ?_;rw[rounds_succ];go_wp
   have p:CH B uR [] wr (wr.setCell (eJ q 10) (eE a.fs.length)):=CH.set f.eH f.low (by decide) 10 _;have C:vf (wr.setCell (eJ q 10) (eE a.fs.length)) B q a u v a.fs.length (jZ a.fs):=⟨f.eH.set 10 _,f.low,il f.row f.eH (by decide) _⟩;have ad:=eD C;have ae:=eD (o.fk p);have af:=eD (p.eH Z);have HN:=eD (GG a _ q _ C.eH (Y.ch p (by decide) (by decide) (by decide) (by decide)) (λP x=>(s.low P x).2.2.2.2) ai.2);clear p C f o Z Y d9 d10 an d5;generalize wr.setCell (eJ q 10) (eE a.fs.length)=w5 at*;refine HN.mono ?_;rintro e w6 ⟨rfl,r⟩;have d5:=(r.eH af).ce 5 (eW);have ao:Hid (CD w B q a a.fs.length (jZ a.fs) (fH (ij #[])) w6):=eD ⟨u,v,rfl,ad.ext r,ae.ext r⟩;clear ad ae af HN r;go_wp2;refine wp_loop_rounds 1 ?_;rw[rounds_succ];go_wp
   go_end0
   exact⟨_,ao⟩
end
section
theorem I7(c:Nat):∀(b:List Rg) (d:Int),b.Pairwise (λa q=>a.ka<=q.at_)->(∀a∈b,d<=a.at_)->iq c b d<=d+((b.map λa=>a.bs.length).sum:Nat)+c*b.length
 |[],d,_,_=>by simp[iq]
 |a::b,d,i,j=>by
  have n:=j a (gM ..)
  obtain⟨k,l⟩:=rD.1 i
  unfold iq
  simp only[hU,DK,iw]
  have f:(c:Int)*((b.length+1:Nat):Int)=c*b.length+c:=by
   rw[Int.natCast_add,Int.mul_add];simp
  have o:(0:Int)<=c*b.length:=Int.mul_nonneg (by omega) (by omega);by_cases g:c<=a.at_- d
  ·rw[fW g,f];omega
  ·rw[fG g,f];have m:max d (a.at_+a.bs.length)=a.ka:=by unfold Rg.ka;omega
   rw[m];have:=I7 c b a.ka l k;unfold Rg.ka at this ⊢;omega
theorem uw.of{rs:List Rg}(h:sB rs){a n p:Int}(i:4096<=a)(j:a%64=0)(l:1<=n)(m:n<=1048576)(o:a+jn n<=4294967296)(s:0<=p)(t:p<=7)(u:rs.length<4096)(f:∀r∈rs,r.ka<=a\/a+jn n<=r.at_):uw rs a n p:=by
 have E:0<jn n:=by unfold jn;omega
 refine⟨i,j,l,m,o,s,t,u,λr b=> ?_,λr b=> ?_⟩
 ·obtain⟨k,v,rfl⟩:=gN b;rw[ig] at v;rw[N4];have F:=Cb (a:=a) (rs:=rs) (k:=k) (by omega) (by omega);have:=f rs[k] (eU _);unfold Rg.ka at this;omega
 ·have w:∀(c:List Rg),c.Pairwise (λr q=>r.ka<=q.at_)->(∀r∈c,0<r.bs.length)->∀r∈c.drop (i' a c),a<=r.at_:=λc=>by
   induction c with
   |nil=>intro _ _ r b;simp[i'] at b
   |cons q c x=>
    intro y z r b;obtain⟨A,B⟩:=rD.1 y;by_cases g:q.at_<a
    ·have d:i' a (q::c)=i' a c+1:=by simp[i',g]
     rw[d] at b;exact x B (λC D=>z C (gD _ D)) r (by simpa using b)
    ·have d:i' a (q::c)=0:=by simp[i',g]
     rw[d,vw] at b;rcases fm.1 b with rfl|b
     ·omega
     ·have:=A r b;unfold Rg.ka at this;omega
  have G:=w rs h.pw (λr b=>(h.ok r b).2.2.1) r b;have H:=h.ok r (qV b);have:=f r (qV b);unfold Rg.ka at this;omega
theorem nH(rs:List Rg)(a p:Int)(n g c:Nat):(nz rs a p n g c).Perm (⟨a,p,g,c,iF n⟩::rs):=by unfold nz;refine Fc.trans (List.Perm.cons _ ?_);rw[oa]
theorem sB.free{b:List Rg}(h:sB b){f n p:Int}(d:uw b f n p){U g c:Nat}(s:jn n=U):sB (nz b f p U g c):=by
 have j:=h.pw;rw[<-oa (i' f b) b,yg] at j;obtain⟨l,m,o⟩:=j;have k:(iF U).length=U:=by simp[iF]
 have t:=d.n1;have u:0<jn n/\jn n%64=0:=by unfold jn;omega
 refine⟨yg.2 ⟨l,rD.2 ⟨λq a=> ?_,m⟩,λq a r i=> ?_⟩,λq a=> ?_⟩
 ·have:=d.Se q a;unfold Rg.ka;simp only[k];omega
 ·rcases fm.1 i with rfl|i
  ·exact d.below q a
  ·exact o q a r i
 ·rcases fm.1 ((nH b f p U g c).mem_iff.1 a) with rfl|a
  ·have:=d.lo;have:=d.al;simp only[k];omega
  ·exact h.ok q a
theorem xA(a:List Rg)(b p:Int)(n g c:Nat):((nz a b p n g c).map λd=>d.bs.length).sum=(a.map λd=>d.bs.length).sum+n/\(nz a b p n g c).length=a.length+1:=by have h:=nH a b p n g c;refine⟨?_,h.length_eq⟩;rw[(h.map _).sum_nat];simp[iF,D5]
def mh(rs:List Rg):Int:=iq 1280 rs 4096
section
variable {G:Nat->fe} {rs:List Rg} {os:List OV} {stk:fS}
theorem kW.Fk(h:kW G rs os stk)(k:os.length<=13):mh rs+1280<=100000/\uw rs (mh rs) 256 0:=by
 have c:=I7 1280 rs 4096 h.wf.pw (λa b=>(h.wf.ok a b).1);have l:=h.sum;have m:=h.len;obtain⟨d,f,_,g,i⟩:=pY 1280 (by omega) rs 4096 h.wf.pw (λq j=>h.wf.ok q j) (by decide);have b:mh rs+1280<=100000:=by
  unfold mh;have:((1280:Nat):Int)*rs.length<=1280*23:=by omega
  have e:((1280:Nat):Int)=1280:=rfl;rw[e] at c;omega
 refine⟨b,uw.of h.wf d f (by omega) (by omega) (by unfold jn;omega) (by omega) (by omega) (by omega) (λa hm=> ?_)⟩;rw[<-oa (i' (mh rs) rs) rs] at hm;rcases gu.1 hm with hm|hm
 ·exact .inl (g a hm)
 ·have:=i a hm;refine .inr ?_;unfold jn;unfold mh at*;omega
theorem kW.SM(h:kW G rs os stk)(f:os.length<=13)(g c:Nat):sB (nz rs (mh rs) 0 256 g c)/\uw (nz rs (mh rs) 0 256 g c) (mh rs+256) 1024 3:=by
 obtain⟨l,a⟩:=h.Fk f;have m:=h.len;obtain⟨n,o,_,i,j⟩:=pY 1280 (by omega) rs 4096 h.wf.pw (λq k=>h.wf.ok q k) (by decide);have b:=h.wf.free a (U:=256) (g:=g) (c:=c) (by decide);have p:=(xA rs (mh rs) 0 256 g c).2;refine⟨b,uw.of b (by have:=a.lo;omega) (by have:=a.al;omega) (by omega) (by omega) (by unfold jn;omega) (by omega) (by omega) (by omega) (λd hm=> ?_)⟩;rcases fm.1 ((nH rs (mh rs) 0 256 g c).mem_iff.1 hm) with rfl|hm
 ·exact .inl (by simp[Rg.ka,iF])
 rw[<-oa (i' (mh rs) rs) rs] at hm;rcases gu.1 hm with hm|hm
 ·exact .inl (Int.le_trans (i d hm) (by unfold mh;omega))
 ·have:=j d hm;refine .inr ?_;unfold jn;unfold mh at*;omega
def mX(rs:List Rg)(g1 c1 g2 c2:Nat):List Rg:=nz (nz rs (mh rs) 0 256 g1 c1) (mh rs+256) 3 1024 g2 c2
theorem kW.SN(h:kW G rs os stk)(l:os.length<=13)(a b f i:Nat):sB (mX rs a b f i)/\iq 64 (mX rs a b f i) 4096+64<=4294967296/\(mX rs a b f i).length=rs.length+2/\((mX rs a b f i).map λd=>d.bs.length).sum=(rs.map λd=>d.bs.length).sum+1280:=by
 obtain⟨m,n⟩:=h.SM l a b;have j:=m.free n (U:=1024) (g:=f) (c:=i) (by decide);have r:=xA rs (mh rs) 0 256 a b;have s:=xA (nz rs (mh rs) 0 256 a b) (mh rs+256) 3 1024 f i;have o:=Gg (mX rs a b f i) 4096 j.pw (λd p=>j.ok d p) (by decide);have k:((mX rs a b f i).map λd=>d.bs.length).sum=(rs.map λd=>d.bs.length).sum+1280:=by unfold mX;omega
 refine⟨j, ?_,by unfold mX;omega,k⟩;rw[k] at o;have:=h.sum;omega
theorem kW.Pe(h:kW G rs os stk)(v:os.length<=13)(B:stk.length<=1)(b d f i k l:Nat):kW G (nz (mX rs b d f i) (iq 64 (mX rs b d f i) 4096) 3 64 k l) os ((mh rs+256)::stk):=by
 obtain⟨s,w,C,D⟩:=h.SN v b d f i;have t:jn 8=64:=by decide
 have u:=uw.VF (p:=3) s (n:=8) (by omega) (by omega) (by rw[t];exact w) (by omega) (by omega) (by have:=h.len;omega);rw[t] at u;have x:=s.free u (U:=64) (g:=k) (c:=l) (by decide);have E:=xA (mX rs b d f i) (iq 64 (mX rs b d f i) 4096) 3 64 k l;have m:∀a,a∈nz (mX rs b d f i) (iq 64 (mX rs b d f i) 4096) 3 64 k l↔a=⟨iq 64 (mX rs b d f i) 4096,3,k,l,iF 64⟩\/a=⟨mh rs+256,3,f,i,iF 1024⟩\/a=⟨mh rs,0,b,d,iF 256⟩\/a∈rs:=λa=>by rw[(nH _ _ _ _ _ _).mem_iff,fm];unfold mX;rw[(nH _ _ _ _ _ _).mem_iff,fm,(nH _ _ _ _ _ _).mem_iff,fm]
 refine⟨x,λy z=> ?_,h.yD,by have:=h.sum;simp only[iw];omega,by have:=h.len;simp only[iw];omega,λa j=> ?_,λA o=> ?_⟩
 ·obtain⟨a,j,r⟩:=h.each y z;exact⟨a,(m a).2 (.inr (.inr (.inr j))),r⟩
 ·rcases(m a).1 j with rfl|rfl|rfl|j
  ·exact .inr (.inl rfl)
  ·exact .inr (.inl rfl)
  ·exact .inl rfl
  ·exact h.uG a j
 ·rcases fm.1 o with rfl|o
  ·exact⟨_,(m _).2 (.inr (.inl rfl)),rfl,by simp[iF],rfl⟩
  ·obtain⟨a,j,r⟩:=h.stack A o;exact⟨a,(m a).2 (.inr (.inr (.inr j))),r⟩
end
end
