/- TopOnce: part 1 of the proof. -/
import Derived.BigQuiet
import Derived.Deep.AppendLies
import Derived.OwnWalk
import Derived.StillTail
import Derived.Test.YtoaehdgokeicoaaGreatDoorZ00
set_option maxRecDepth 100000
set_option maxHeartbeats 30000000
set_option linter.all false
namespace Go.Proofs.YtoaehdgokeicoaaGreatDoor
open K9 Z9
section
open Go
section
def qi(ops:Array Oper):Nat->Nat->Nat->Bool
 |0,_,_=>false
 |f+1,j,i=>match ops[j]? with
  |none=>false
  |some o=>o.after.any λe=>Region.binds .any e&&(e.on==i||qi ops f e.on i)
def Shut(ops:Array Oper)(listed:Array Bool):Prop:=∀j oj,ops[j]? =some oj->listed.getD j false=true->∀e∈oj.after,Region.binds .any e=true->listed.getD e.on false=true
theorem qj{d:Array Oper}{f:Array Bool}(k:Shut d f):∀(g b a:Nat),(∀c,d[b]? =some c->∀e∈c.after,Region.binds .any e=true->f.getD e.on false=true)->qi d g b a=true->f.getD a false=true
 |0,b,a,_,h=>by cases h
 |g+1,b,a,m,h=>by
  unfold qi at h;split at h
  ·cases h
  ·rename_i n o;obtain⟨e,p,i⟩:=Array.any_eq_true'.1 h;simp only[pC,Qg,sT] at i;have l:=m n o e p i.1;rcases i.2 with j|j
   ·rw[<-j];exact l
   ·exact qj k g e.on a (λc r s t u=>k e.on c r l s t u) j
theorem Shut.set{a:Array Oper}{b:Array Bool}(m:Shut a b){i:Nat}(n:i∈Region.ready .any a b):Shut a (b.setIfInBounds i true):=by
 obtain⟨_,o,p,r⟩:=mem_ready.1 n;intro c d f g e j k;by_cases l:i=c
 ·subst l;have:d=o:=mj (f.symm.trans p);subst this;exact getD_set_true (r e j k)
 ·rw[getD_set_ne false l] at g;exact getD_set_true (m c d f g e j k)
def rq(o:Oper):Bool:=match o.op with
 | .move _| .assign _| .pick _ _ _| .nilCheck _| .binOp _ _ _ _ _| .unOp _ _ _| .fieldAddr _ _ _| .field _ _ _| .indexAddr _ _ _| .index _ _ _| .extract _ _| .load _ _| .slice _ _ _ _ _| .lookup _ _ _ _| .makeInterface _ _| .makeFunc _ _ _| .convert _ _ _| .build _ _=>true
 | .call c=>match c.callee with
   | .builtin b=>match b with
     | .len| .cap| .min| .max=>true
     |_=>false
   |_=>false
 |_=>false
theorem R3{b:Program}{c:eI}(d:Sem eS){f:Next}{i:eI}(h:((do pure (.value (<-d))):Sem Next).run b c=.ok f i):∃a,f=.value a:=by
 simp only[nU,rt] at h;cases g:d.run b c with
 |ok a j=>rw[g] at h;simp only[sU] at h;cases h;exact⟨a,rfl⟩
 |halt k j=>rw[g] at h;cases h
theorem xF{c:Program}{f:eI}{g:Oper}{i:Operand->eS}(a:rq g=true){j:Next}{m:eI}(h:(execOp i g).run c f=.ok j m):∃k,j=.value k:=by
 unfold rq at a;split at a;all_goals first
  |(next b=>simp only[execOp,b] at h;exact R3 _ h)
  |(next b=>simp only[execOp,b,rt] at h;cases h;exact⟨_,rfl⟩)
  |skip
 ·next b=>
  simp only[execOp,b] at h;rw[nU] at h;revert h;cases(asBool (i _)).run c f with
  |ok k d=>intro h;simp only[sU,rt] at h;cases h;exact⟨_,rfl⟩
  |halt t d=>intro h;cases h
 ·next b=>
  simp only[execOp,b] at h;split at h
  ·simp[runtimePanic,goPanic,go_sem] at h
  ·simp[runtimePanic,goPanic,go_sem] at h
  ·simp[runtimePanic,goPanic,go_sem] at h
  ·split at h
   ·simp[runtimePanic,goPanic,go_sem] at h
   ·rw[nU] at h;cases l:Sem.run c program f with
    |halt e d=>rw[l] at h;cases h
    |ok u d=>
     rw[l] at h;simp only[sU] at h;rw[nU] at h;revert h;generalize Sem.run c (nilAhead _ _ _ _) d=n;cases n with
     |halt e o=>intro h;cases h
     |ok p o=>
      intro h;simp only[sU] at h;split at h
      ·rw[nU] at h;simp[unsupported,go_sem] at h
      ·simp only[rt] at h;cases h;exact⟨_,rfl⟩
   ·simp only[rt] at h;cases h;exact⟨_,rfl⟩
  ·simp only[rt] at h;cases h;exact⟨_,rfl⟩
 ·next v r=>
  simp only[execOp,r,resolve] at h;split at a
  ·next p s=>
   simp only[s,nU,rt,sU,invoke] at h;split at a;all_goals first
    |(simp only[builtin] at h;exact R3 _ h)
    |cases a
  ·cases a
 ·cases a
section
variable {P:Program} {ops:Array Oper} {C:eI->Prop} {F:Nat->Bool}
def QF:Exit->Act->eI->Prop:=λ_ _ _=>False
def QN(R:Act->eI->Prop):Exit->Act->eI->Prop
 | .normal,a,w=>R a w
 |_,_,_=>False
@[go_sem] theorem m8(R:Act->eI->Prop)(a:Act)(b:eI):QN R .normal a b=R a b:=rfl
theorem Db{f:Oper}{a:Act}{b:eI}{g K':Act->eI->Prop}{Q:Exit->Act->eI->Prop}(h:∀a b,g a b->K' a b)(c:f.wp P a b g QF):f.wp P a b K' Q:=by
 unfold Oper.wp at*;generalize(execOp a.eval f).run P b=i at*;cases i with
 |ok j k=>
  cases j<;>simp only[Oper.upon] at c ⊢<;>
   first
    |exact h _ _ c
    |exact Calls.mono c (λe n d=>by
      cases e with
      |returned o=>exact h _ _ d
      |panicked p=>exact d.elim
      |outgrown=>obtain⟨_,_,l⟩:=d;exact l.elim)
    |exact Rows.mono c (λ_ _ d=>h _ _ d)
 |halt m k=>cases m<;>simp only[Oper.upon] at c ⊢;exact c.elim
theorem xG{f:Nat}{b:Act}{c:eI}{g i:Act->eI->Prop}{j:Exit->Act->eI->Prop}(h:∀b c,g b c->i b c)(a:wpOp P ops QF f g b c):wpOp P ops j f i b c:=by
 unfold wpOp at*;split
 ·exact h _ _ (by simpa[*] using a)
 ·rename_i m k;simp only[k] at a;split
  ·rename_i d;simp only[d,nV] at a;rcases a with a|⟨_,_,_,l⟩
   ·exact .inl (Db h a)
   ·exact l.elim
  ·rename_i d;simp only[d] at a;exact h _ _ a
def vh(P:Program)(ops:Array Oper)(C:eI->Prop)(F:Nat->Bool)(Q:Exit->Act->eI->Prop):Nat->Array Bool->Act->eI->Prop
 |0,listed,a,w=>Region.ready .any ops listed=[]/\Q .normal a w
 |fuel+1,listed,a,w=>
  (Region.ready .any ops listed=[]->Q .normal a w)/\
  ∀i∈Region.ready .any ops listed,wpOp P ops (if F i=true then QF else Q) i (λa' w'=>(F i=true->C w')/\vh P ops C F Q fuel (listed.setIfInBounds i true) a' w') a w
theorem tx{f:Exit->Act->eI->Prop}:∀(fuel:Nat) (g:Array Bool) (i:Act) (j:eI),vh P ops C F f fuel g i j->wpAny P .any ops f fuel g i j
 |0,_,_,_,h=>h
 |fuel+1,_,_,_,h=>⟨h.1,λk l=>by
  have a:=h.2 k l;split at a
  ·exact xG (λb c d=>tx fuel _ b c d.2) a
  ·exact wpOp_mono (λb c d=>tx fuel _ b c d.2) a⟩
def ko(P:Program)(ops:Array Oper)(C:eI->Prop)(o:Oper)(v:eS)(a:Act):Prop:=
 (Region.wanted o (yielded ops a.tmps)=true/\∀w,C w->(execOp a.eval o).run P w=.ok (.value v) w)\/
 (Region.wanted o (yielded ops a.tmps)=false/\v=undef)
theorem ko.wpOp{f:Nat}{b:Oper}{g:eS}{c:Act}{a:eI}(j:ops[f]? =some b)(k:ko P ops C b g c)(l:C a){i:Act->eI->Prop}{m:Exit->Act->eI->Prop}(h:i (c.put b.dst g) a):wpOp P ops m f i c a:=by
 unfold Go.wpOp;simp only[j];rcases k with⟨d,n⟩|⟨d,rfl⟩
 ·simp only[d,nV,Oper.wp,n a l,Oper.upon];exact .inl h
 ·simp only[d,Dc,ua];exact h
theorem ko.Hu{a:Oper}{d:eS}{b c:Act}(f:ko P ops C a d b)(g:execOp c.eval a=execOp b.eval a)(i:Region.wanted a (yielded ops c.tmps)=Region.wanted a (yielded ops b.tmps)):ko P ops C a d c:=by unfold ko at*;rw[g,i];exact f
theorem Aj{m:Nat}{d f:Oper}{b:eS}(x:ops[m]? =some f)(y:d.apart ops f=true)(z:∀n o,d.op≠ .select n o)(A:∀n o,f.op≠ .select n o){t:Act->eI->Prop}{a:Act}{p:eI}(g:ko P ops C d b a)(h:wpOp P ops QF m t (a.put d.dst b) p):
 wpOp P ops QF m (λu r=>ko P ops C d b u/\t (u.put d.dst b) r) a p:=by
 obtain⟨v,i,w⟩:=Oper.apart_spec y;have j:∀(a:Act),ko P ops C d b a->∀c,ko P ops C d b (a.put f.dst c):=λa g c=>g.Hu (execOp_put d z a f.dst c w) (wanted_put d a f.dst c w)
 have B:∀l,ko P ops C d b {a with defers:=l::a.defers}:=λl=>g.Hu rfl rfl;unfold wpOp at*;simp only[x] at*;rw[wanted_put f a d.dst b v] at h;split
 ·rename_i s;simp only[s,nV] at h;rcases h with h|⟨_,_,_,D⟩
  case inr=>exact D.elim
  refine .inl ?_;unfold Oper.wp at*;rw[execOp_put f A a d.dst b v] at h;generalize(execOp a.eval f).run P p=E at*;cases E with
  |ok F r=>
   cases F<;>simp only[Oper.upon] at h ⊢
   case value c=>exact⟨j a g c,by rw[<-Act.put_comm a b c i];exact h⟩
   case skip=>exact⟨j a g _,by rw[<-Act.put_comm a b undef i];exact h⟩
   case defer l=>refine⟨j _ (B l) _, ?_⟩;rw[<-Act.put_comm _ b undef i,<-Act.put_defers];exact h
   case enter I args=>
    refine Calls.mono h λe G k=> ?_;cases e with
    |returned c=>exact⟨j a g c,by rw[<-Act.put_comm a b c i];exact k⟩
    |panicked J=>exact k.elim
    |outgrown=>exact k
   case row row args=>exact Rows.mono h λc G k=>⟨j a g c,by rw[<-Act.put_comm a b c i];exact k⟩
  |halt H r=>
   cases H<;>simp only[Oper.upon] at h ⊢
   case panic c=>exact h.elim
 ·rename_i s;simp only[s] at h;exact⟨j a g _,by rw[<-Act.put_comm a b undef i];exact h⟩
theorem BZ{z:Exit->Act->eI->Prop}{b:Nat}{i:Oper}{A:eS}{N:Nat}(x:ops[b]? =some i)(B:∀(a:Nat) (D:Oper) k l,ops[a]? =some D->D.op≠ .select k l)(ae:F b=true)(hF:∀a,a<ops.size->F a=false->qi ops N a b=true):
 ∀(m:Nat) (c:Array Bool) (n:Act) (o:eI),C o->Shut ops c->
  (∀a d,ops[a]? =some d->a≠b->c.getD a true=false->(∀e∈d.after,Region.binds .any e=true->e.on≠b)->i.apart ops d=true)->
  b∈Region.ready .any ops c->ko P ops C i A n->
  vh P ops C F z m (c.setIfInBounds b true) (n.put i.dst A) o->vh P ops C F z (m+1) c n o:=by
 intro m;induction m with
 |zero=>
  intro c n o p _ _ g v r;refine⟨λh=>(by rw[h] at g;cases g),λa s=> ?_⟩;by_cases f:a=b
  ·subst f;exact v.wpOp x p ⟨λ_=>p,r⟩
  ·have:=ready_mono s f;rw[r.1] at this;cases this
 |succ m M=>
  intro c n o p E G g v r;refine⟨λh=>(by rw[h] at g;cases g),λa s=> ?_⟩;by_cases f:a=b
  ·subst f;exact v.wpOp x p ⟨λ_=>p,r⟩
  ·have t:=r.2 a (ready_mono s f);obtain⟨H,d,u,I⟩:=mem_ready.1 s;have J:c.getD b false=false:=by have O:=(mem_ready.1 g).1;exact getD_both O
   have Q:∀e∈d.after,Region.binds .any e=true->e.on≠b:=λe R S heq=>by have t:=I e R S;rw[heq,J] at t;cases t
   have y:F a=true:=by
    cases T:F a with
    |true=>rfl
    |false=>
     have:=qj E N a b (λU V=>by have:U=d:=mj (V.symm.trans u);subst this;exact I) (hF a (LV.1 u).1 T)
     rw[J] at this;cases this
   rw[fW y] at t;have W:=Aj u (G a d u f H Q) (λk l=>B b i k l x) (λk l=>B a d k l u) v t;have X:∀j ok,ops[j]? =some ok->j≠b->(c.setIfInBounds a true).getD j true=false->
    (∀e∈ok.after,Region.binds .any e=true->e.on≠b)->i.apart ops ok=true:=λj ok Y Z K ad=>by
    refine G j ok Y Z ?_ ad;by_cases L:a=j
    ·subst L;exact H
    ·rw[getD_set_ne true L] at K;exact K
   rw[fW y];refine wpOp_mono (λa' w' w=>⟨w.2.1,M (c.setIfInBounds a true) a' w' (w.2.1 y) (E.set s) X (ready_mono g (nW f)) w.1 ?_⟩) W;rw[Uj _ _ f];exact w.2.2
def xH(P:Program)(ops:Array Oper)(C:eI->Prop)(Q:Exit->Act->eI->Prop):Nat->List Oper->Act->eI->Prop
 |0,l,a,w=>wpList P ops Q l a w
 |m+1,o::l,a,w=>wpList P ops (QN λa' w'=>C w'/\xH P ops C Q m l a' w') [o] a w
 |_+1,[],_,_=>False
def Mb(ops:Array Oper):fe->Array Bool->Bool
 |[],listed=>(Region.ready .any ops listed).isEmpty
 |k::r,listed=>decide (Region.ready .any ops listed=[k])&&Mb ops r (listed.setIfInBounds k true)
def Dd(ops:Array Oper)(tl:fe):fe->Array Bool->Bool
 |[],listed=>Mb ops tl listed
 |k::r,listed=>(Region.ready .any ops listed).contains k&&Region.free .any ops listed k&&Dd ops tl r (listed.setIfInBounds k true)
def gj(ops:Array Oper)(l:fe):List Oper:=l.filterMap λi=>ops[i]?
def Qh(ops:Array Oper)(hd tl:fe)(m:Nat):Bool:=
 Region.noSelect ops&&hd.all (λi=>((ops[i]?).map rq).getD false&& !tl.contains i)&&tl.all (λi=>decide (i<ops.size))&&
 (List.range ops.size).all (λj=>hd.contains j||(tl.take m).contains j||hd.all (λi=>qi ops ops.size j i))&&decide (m<=tl.length)&&decide (hd.length+tl.length=ops.size)&&
 Dd ops tl hd (Array.replicate ops.size false)
theorem R4{i:Act->eI->Prop}{f:Oper}{a:Act}{b:eI}{g K':Act->eI->Prop}(h:∀a b,g a b->K' a b)(c:f.wp P a b g (QN i)):f.wp P a b K' QF:=by
 unfold Oper.wp at*;generalize(execOp a.eval f).run P b=j at*;cases j with
 |ok k l=>
  cases k<;>simp only[Oper.upon] at c ⊢<;>
   first
    |exact h _ _ c
    |exact Calls.mono c (λe o d=>by
      cases e with
      |returned p=>exact h _ _ d
      |panicked r=>exact d.elim
      |outgrown=>obtain⟨_,_,m⟩:=d;exact m.elim)
    |exact Rows.mono c (λ_ _ d=>h _ _ d)
 |halt n l=>cases n<;>simp only[Oper.upon] at c ⊢;exact c.elim
theorem De{d:Act->eI->Prop}{f:Nat}{g:Oper}{l:List Oper}(k:ops[f]? =some g){a:Act}{b:eI}{i:Act->eI->Prop}(j:∀a b,wpList P ops (QN d) l a b->i a b)(h:wpList P ops (QN d) (g::l) a b):wpOp P ops QF f i a b:=by
 unfold wpOp;simp only[k];simp only[wpList] at h;split at h
 ·rename_i c;simp only[c,nV];rcases h with h|⟨_,_,_,m⟩
  ·exact .inl (R4 j h)
  ·exact m.elim
 ·rename_i c;simp only[c];exact j _ _ h
theorem Mc{c:Exit->Act->eI->Prop}{d:Nat}{f:Oper}{l:List Oper}(i:ops[d]? =some f){a:Act}{b:eI}{g:Act->eI->Prop}(j:∀a b,wpList P ops c l a b->g a b)(h:wpList P ops c (f::l) a b):wpOp P ops c d g a b:=by refine wpOp_mono j ?_;unfold wpOp;simp only[i];exact h
theorem tz{w:Exit->Act->eI->Prop}:∀(a:fe) (j:Array Bool) (k:Act) (m:eI) (c:Nat),(∀b∈a,b<ops.size)->a.Nodup->Mb ops a j=true->(∀b,b∈a->(F b=true↔b∈a.take c))->
 xH P ops C w c (gj ops a) k m->vh P ops C F w a.length j k m
 |[],j,k,m,c,_,_,f,_,h=>by
  refine⟨by simpa[Mb] using f, ?_⟩;cases c with
  |zero=>exact h
  |succ c=>exact h.elim
 |n::a,j,k,m,c,r,s,f,hF,h=>by
  have z:=r n (gM ..);have t:=Vj z;have A:gj ops (n::a)=ops[n]::gj ops a:=by simp[gj,t]
  rw[A] at h;simp only[Mb,pC,jh] at f;have B:=(ph.1 s).1;refine⟨λx=>(by rw[f.1] at x;cases x),λb y=> ?_⟩;rw[f.1] at y;have D:b=n:=by simpa using y
  subst D;cases c with
  |zero=>
   have o:¬F b=true:=λi=>by have:=(hF b (gM ..)).1 i;simp at this
   rw[fG o];refine Mc t (λu v p=>⟨λi=>absurd i o, ?_⟩) h;exact tz a _ u v 0 (λg d=>r g (gD _ d)) (ph.1 s).2 f.2 (λg d=>by have:=hF g (gD _ d);simpa using this) p
  |succ c=>have o:=(hF b (gM ..)).2 (by simp);rw[fW o];refine De (l:=[]) t (λu v p=>⟨λ_=>p.1, ?_⟩) h;exact tz a _ u v c (λg d=>r g (gD _ d)) (ph.1 s).2 f.2 (λg d=>by have:=hF g (gD _ d);rw[xI,fm] at this;refine⟨λi=>(this.1 i).resolve_left (λe=>B (e▸d)),λE=>this.2 (.inr E)⟩) p.2
theorem xJ{o:Exit->Act->eI->Prop}{N:Nat}(a:fe)(k:Nat)(v:Region.noSelect ops=true)(w:∀b∈a,b<ops.size)(x:a.Nodup)(y:∀b,b∈a->(F b=true↔b∈a.take k)):
 ∀(c:fe) (g:Array Bool) (d:Act) (f:eI),C f->Shut ops g->(∀b∈c,∃i,ops[b]? =some i/\rq i=true/\F b=true/\∀p,p<ops.size->F p=false->qi ops N p b=true)->
 Dd ops a c g=true->wpQuiet P ops C (λr=>xH P ops C o k (gj ops a) r f) (gj ops c) d->
 vh P ops C F o (c.length+a.length) g d f
 |[],g,d,f,s,_,_,n,h=>by
  rw[jH,lH]
  exact tz a g d f k w x (by simpa[Dd] using n) y h
 |l::c,g,d,f,s,z,A,n,h=>by
  obtain⟨i,m,E,G,H⟩:=A l (gM ..)
  have I:gj ops (l::c)=i::gj ops c:=by simp[gj,m]
  rw[I] at h
  simp only[Dd,pC] at n
  obtain⟨⟨J,K⟩,L⟩:=n
  have B:l∈Region.ready .any ops g:=by simpa using J
  have M:qOp P ops C l (wpQuiet P ops C (λr=>xH P ops C o k (gj ops a) r f) (gj ops c)) d:=by unfold qOp;simp only[m];exact h
  obtain⟨O,Q,R⟩:=yieldsIn_of_qOp m M
  have S:ko P ops C i O d:=by
   rcases Q with⟨t,T⟩|⟨t,e⟩
   ·refine .inl ⟨t,λD U=> ?_⟩;have j:=T D U;unfold Oper.quietAt at j;cases u:(execOp d.eval i).run P D with
    |ok X V=>rw[u] at j;obtain⟨Y,rfl⟩:=xF E u;simp only[Oper.quietUpon] at j;obtain⟨rfl,rfl⟩:=j;rfl
    |halt e V=>rw[u] at j;simp only[Oper.quietUpon] at j
   ·exact .inr ⟨t,e⟩
  rw[show(l::c).length+a.length=(c.length+a.length)+1 by simp;omega];exact BZ (N:=N) m (Region.noSelect_spec v) G H _ g d f s z (Region.free_spec m K) B S
   (xJ a k v w x y c _ _ f s (z.set B) (λb W=>A b (gD _ W)) L R)
end
theorem ql{i:Program}{id:Nat}{o:Exit->Act->eI->Prop}{m:Act}{j:eI}{a:List Oper}(k g:fe)(n:Nat)(C:eI->Prop)(p:i.follows .mixedOrders=true)(s:Qh a.toArray k g n=true)(w:decide g.Nodup=true)(x:C j.drew)(h:wpQuiet i a.toArray C (λy=>xH i a.toArray C o n (gj a.toArray g) y j.drew) (gj a.toArray k) m):(Code.region id a.toArray true).wp i o m j:=by
 simp only[Qh,pC,jh] at s;obtain⟨⟨⟨⟨⟨⟨z,t⟩,A⟩,B⟩,J⟩,D⟩,E⟩:=s;refine wp_region_any p ?_;have G:wpAny i .any a.toArray o (k.length+g.length) (Array.replicate a.toArray.size false) m {j with drawn:=j.drawn+1}:= ?_
 ·rwa [D] at G
 refine tx (C:=C) (F:=λl=>k.contains l||(g.take n).contains l) _ _ _ _ ?_;refine xJ (N:=a.toArray.size) g n z (λc d=>by simpa using xK.1 A c d) (xL w) (λc d=>⟨λb=> ?_,λp=>by simp[p]⟩) k _ m _ x (λl K _ u=>(by rw[getD_replicate_false] at u;cases u)) (λc d=> ?_) E h
 ·simp only[Qg,List.contains_iff_mem] at b;rcases b with b|b
  ·have f:=xK.1 t c b;simp[d] at f
  ·exact b
 ·have f:=xK.1 t c d;cases v:a.toArray[c]? with
  |none=>rw[v] at f;cases f
  |some H=>rw[v] at f;simp only[qO,pP,pC] at f;refine⟨H,rfl,f.1,by simp[d],λl I b=> ?_⟩;have r:=xK.1 B l (ll.2 I);simp only[SV] at b;rw[b.1,b.2] at r;simp only[SX] at r;exact xK.1 r c d
theorem mC{b:Program}{id:Nat}{i:Exit->Act->eI->Prop}{j:Act}{d:eI}{a k lt:List Oper}(f c:fe)(g:eI->Prop)(l:b.follows .mixedOrders=true)(m:Qh a.toArray f c 0=true)(n:decide c.Nodup=true)(o:gj a.toArray f=k)(p:gj a.toArray c=lt)(r:g d.drew)(h:wpQuiet b a.toArray g (λs=>wpList b a.toArray i lt s d.drew) k j):(Code.region id a.toArray true).wp b i j d:=by subst o p;exact ql f c 0 g l m n r h
theorem mD{b:Program}{id:Nat}{i:Exit->Act->eI->Prop}{j:Act}{f:eI}{a k lt:List Oper}{l:Oper}(g c:fe)(d:eI->Prop)(n:b.follows .mixedOrders=true)(o:Qh a.toArray g c 1=true)(p:decide c.Nodup=true)(r:gj a.toArray g=k)(s:gj a.toArray c=l::lt)(t:d f.drew)(h:wpQuiet b a.toArray d (λu=>wpList b a.toArray (QN λv m=>d m/\wpList b a.toArray i lt v m) [l] u f.drew) k j):(Code.region id a.toArray true).wp b i j f:=by subst r;refine ql g c 1 d n o p t ?_;rw[s];exact h
theorem om{P:Program}{id:Nat}{g:Exit->Act->eI->Prop}{i:Act}{d:eI}{a j lt:List Oper}(f b:fe)(m:Nat)(c:eI->Prop)(k:P.follows .mixedOrders=true)(l:Qh a.toArray f b m=true)(n:decide b.Nodup=true)(o:gj a.toArray f=j)(p:gj a.toArray b=lt)(r:c d.drew)(h:wpQuiet P a.toArray c (λs=>xH P a.toArray c g m lt s d.drew) j i):(Code.region id a.toArray true).wp P g i d:=by subst o p;exact ql f b m c k l n r h
theorem jm{P:Program}{a:Array Oper}{f:eI->Prop}{b:Exit->Act->eI->Prop}{l:List Oper}{c:Act}{d:eI}(h:wpList P a b l c d):xH P a f b 0 l c d:=h
theorem gH{P:Program}{a:Array Oper}{b:eI->Prop}{c:Exit->Act->eI->Prop}{m:Nat}{d:Oper}{l:List Oper}{f:Act}{g:eI}(h:wpList P a (QN λj i=>b i/\xH P a b c m l j i) [d] f g):xH P a b c (m+1) (d::l) f g:=h
def KW(bs:fe)(w0:eI):Type:={u:eI//∀b∈bs,u.heap[b]? =w0.heap[b]?}
instance {bs:fe}{w0:eI}:Nonempty (KW bs w0):=⟨⟨w0,λ_ _=>rfl⟩⟩
def KW.w{bs:fe}{w0:eI}(u:KW bs w0):eI:=u.1
def KC(bs:fe)(w0 w:eI):Prop:=∃u:KW bs w0,w=u.w
theorem KC.of{b:fe}{c a:eI}(h:∀d∈b,a.heap[d]? =c.heap[d]?):KC b c a:=⟨⟨a,h⟩,rfl⟩
theorem KC.out{a:fe}{c w:eI}(h:KC a c w):∀b∈a,w.heap[b]? =c.heap[b]?:=by obtain⟨d,rfl⟩:=h;exact d.2
theorem KW.cell{c:fe}{a:eI}(u:KW c a){b d:Nat}{v:eS}(h:a.cell? (eJ b d)=some v)(f:b∈c):u.w.cell? (eJ b d)=some v:=by unfold World.cell? at h ⊢;rw[show u.w.heap[b]? =a.heap[b]? from u.2 b f];exact h
theorem gU{P:Program}{id:Nat}{g:Exit->Act->eI->Prop}{i:Act}{a:eI}{l j lt:List Oper}(c:fe)(d b:fe)(f:Nat)(h:wpQuiet P l.toArray (λk=>∃m:KW c a,k=m.w) (λn=>xH P l.toArray (KC c a) g f lt n a.drew) j i)(o:P.follows .mixedOrders=true:=by kernel_rfl)(p:Qh l.toArray d b f=true:=by kernel_rfl)(r:decide b.Nodup=true:=by decide)(s:gj l.toArray d=j:=by simp[gj];rfl)(t:gj l.toArray b=lt:=by simp[gj];first|rfl|exact⟨rfl,rfl⟩):(Code.region id l.toArray true).wp P g i a:=
 om d b f (KC c a) o p r s t (KC.of λ_ _=>rfl) h
end
end
section
variable{w v u W V U:eI}{n k m i j p b c d g N B K G M:Nat}{x y z X Y Z:eS}{D E:Int}{A H I:fE}{l L J T:fY}{r s t R S:fe}{f:ik}{a:Act}{kY O Q:List Oper}{kE:Oper}{kG:Array Oper}{kH:Program}{kJ:kx}
section
open Go.RowKit
theorem R5(c:Below n w v):∀a b,a<n->v.cell? (eJ a b)=w.cell? (eJ a b):=
 λa b h=>c.cell (p:=⟨a,b,none⟩) h
theorem Ak{v:eS}(a:Below n w u)(h:w.cell? (eJ k m)=some v)(b:k<n):u.cell? (eJ k m)=some v:=
 (R5 a k m b).trans h
theorem Df(a:eI)(b:kx)(f:ik)(c:Nat){d:eS}(h:b[c]? =some d):(a.alloc (eN b f)).cell? (eJ a c)=some d:=by rw[World.cell?_alloc_new];exact h
theorem Vz{a:Obj}(h:w.cell? (eJ n k)=some x):(w.alloc a).cell? (eJ n k)=some x:=by have b:n<w.heap.size:=Hv w (eJ n k) h;rw[World.cell?_alloc_lt _ _ _ b];exact h
def eQ(w:eI)(g:Nat)(t:ik)(cs:kx):Prop:=w.heap[g]? =some (.cells cs t (0,0))
theorem eQ.lt{w:eI}{g:Nat}(h:eQ w g f kJ):g<w.heap.size:=by unfold eQ at h;exact(LV.1 h).1
theorem eQ.cell{w:eI}{g:Nat}(h:eQ w g f kJ)(i:Nat){v:eS}(a:kJ[i]? =some v):w.cell? (eJ g i)=some v:=
 (cell_of_row w g i kJ f (0,0) h).trans a
theorem eQ.frozen{w:eI}{g:Nat}(h:eQ w g f kJ)(i:Nat):w.frozen? (eJ g i)=false:=
 frozen_of_row w g i kJ f h
theorem eQ.new(w:eI)(a:ik)(b:kx):eQ (w.alloc (eN b a)) w a b:=Hw w _
theorem eQ.drew{w:eI}{g:Nat}(h:eQ w g f kJ):eQ w.drew g f kJ:=h
theorem eQ.alloc{w:eI}{g:Nat}(h:eQ w g f kJ)(a:Obj):eQ (w.alloc a) g f kJ:=(SY w a g h.lt).trans h
theorem eQ.set{w:eI}{g:Nat}(h:eQ w g f kJ)(i:Nat)(u:eS):eQ (w.setCell (eJ g i) u) g f (kJ.setIfInBounds i u):=
 heap_setCell_same w g i kJ f u h
theorem eQ.ub(h:eQ w n f kJ){p:Addr}(b:n≠p.block)(a:eS):eQ (w.setCell p a) n f kJ:=(Dg w p a n b).trans h
theorem eQ.below{w:eI}{g B:Nat}(h:eQ w g f kJ)(a:Below B w v)(b:g<B):eQ v g f kJ:=(a.block g b).trans h
theorem eQ.grown{w w':eI}{g:Nat}{row:Option Nat}(h:eQ w g f kJ)(a:w.grownBy w' row)(b:some g≠row):eQ w' g f kJ:=(a.block g h.lt b).trans h
def kq(ws:fe):fY:=ws.map λx:Nat=>Value.int .u64 (x:Int)
def ud(ws:fe):fY:=ws.map λx:Nat=>Value.int .u32 (x:Int)
def Rd(w:eI)(A:fE)(xs:fY):Prop:=
 ∀(i:Nat) (h:i<xs.length),∃b off,A=some (eJ b off)/\w.cell? (eJ b (off+i))=some xs[i]
theorem js{v:eS}(h:w.cell? (eJ n k)=some v):n<w.heap.size:=
 Hv w ⟨n,k,none⟩ h
theorem Rd.nil(w:eI)(A:fE):Rd w A []:=λa h=>absurd h (by simp)
theorem Rd.Di(h:Rd w A l)(f:Below n w u)(g:∀a b v,w.cell? (eJ a b)=some v->a<n):Rd u A l:=by intro c i;obtain⟨a,b,j,d⟩:=h c i;exact⟨a,b,j,by rw[f.cell (p:=(eJ a (b+c))) (g _ _ _ d)];exact d⟩
theorem Rd.below{w:eI}{A:fE}(h:Rd w A l)(a:Below w w v):Rd v A l:=
 h.Di a λ_ _ _ b=>js b
theorem Rd.take{w:eI}{A:fE}{xs:fY}(h:Rd w A xs)(n:Nat):Rd w A (xs.take n):=by
 intro a b;have c:a<xs.length:=by simp at b;omega
 obtain⟨d,f,g,i⟩:=h a c;exact⟨d,f,g,by rw[i];simp⟩
theorem Rd.fC{w:eI}{e:ik}{n cap:Nat}{A:fE}{xs:fY}(h:w.ownsRow k e 1 (.slice A n cap) n xs):Rd w A xs:=by
 intro a p;rcases h with⟨d,h⟩;rcases h with⟨f,g⟩|⟨b,r,c,f,s,i,t,u,j,l⟩
 ·subst g;rw[Md] at d;omega
 ·injection f with m
  refine⟨b,0,m, ?_⟩;have:w.cell? (eJ b (0+a))=c[0+a]?:=cell_of_row w b (0+a) c e (0,0) i;rw[this,lH];rw[qP] at d j;have o:a<c.size:=by omega
  rw[Vj o];congr 1
  subst l;simp
theorem Rd.u64(h:Rd w A (kq r)){i:Nat}(c:i<r.length):
 ∃a b,A=some (eJ a b)/\a<w.heap.size/\w.cell? (eJ a (b+i))=some (.int .u64 ((r.getD i 0:Nat):Int)):=by obtain⟨a,b,f,d⟩:=h i (by simpa[kq] using c);refine⟨a,b,f,js d, ?_⟩;rw[d,jx,gg c];simp[kq]
theorem Rd.u32(h:Rd w A (ud r)){i:Nat}(c:i<r.length):
 ∃a b,A=some (eJ a b)/\a<w.heap.size/\w.cell? (eJ a (b+i))=some (.int .u32 ((r.getD i 0:Nat):Int)):=by obtain⟨a,b,f,d⟩:=h i (by simpa[ud] using c);refine⟨a,b,f,js d, ?_⟩;rw[d,jx,gg c];simp[ud]
theorem vj{e:ik}{size:Nat}{v:eS}(h:w.ownsRow n e size v k l)(c:Below w w u):u.ownsRow n e size v k l:=by
 refine⟨h.1, ?_⟩;rcases h.2 with d|⟨a,f,g,rfl,i,b,rest⟩
 ·exact .inl d
 ·exact .inr ⟨a,f,g,rfl,i,(c.block a (LV.1 b).1).trans b,rest⟩
theorem fq{w:eI}{base':Nat}{e:ik}{size n:Nat}{v:eS}{xs:fY}(h:w.ownsRow k e size v n xs)(f:base'<=k):w.ownsRow base' e size v n xs:=by
 refine⟨h.1, ?_⟩;rcases h.2 with a|⟨b,c,d,rfl,g,rest⟩
 ·exact .inl a
 ·exact .inr ⟨b,c,d,rfl,by omega,rest⟩
theorem qm{e:ik}{size:Nat}(h:w.ownsRow n e size (fN m k i) k l){p:Addr}(d:m≠p.block)(b:eS):
 (w.setCell p b).ownsRow n e size (fN m k i) k l:=by
 refine⟨h.1, ?_⟩;rcases h.2 with⟨a,_⟩|⟨o,r,f,a,g,j,rest⟩
 ·cases a
 ·have c:=a;simp only[ml,fd,ny,gP,ky] at c;obtain⟨rfl,rfl⟩:=c;exact .inr ⟨m,i,f,a,g,(Dg w p b m d).trans j,rest⟩
theorem Me{e:ik}{size:Nat}(h:w.ownsRow n e size (fN m k i) k l):n<=m/\m<w.heap.size:=
 h.lt m rfl
theorem jI{e:ik}{size:Nat}{v:eS}(h:w.ownsRow n e size v k l)(i:0<k):
 ∃a b,v=fN a k b/\n<=a/\a<w.heap.size/\k<=b/\b<=maxLen:=by
 rcases h.2 with⟨_,j⟩|⟨a,b,m,rfl,c,d,f,g,_⟩
 ·omega
 ·exact⟨a,b,rfl,c,(LV.1 d).1,f,g⟩
theorem vk{e:ik}{size:Nat}(h:w.ownsRow n e size (fN m k i) k l){c:Nat}{d:ik}{f:kx}(a:eQ w c d f)(g:e≠d):c≠m:=by
 rcases h.2 with⟨b,_⟩|⟨p,r,s,b,_,j,_⟩
 ·cases b
 ·simp only[ml,fd,ny,gP,ky] at b;obtain⟨rfl,rfl⟩:=b;rintro rfl;unfold eQ at a;rw[j] at a;injection a with a
  injection a with _ o
  exact g o
theorem il{e:ik}{size:Nat}{v:eS}(h:w.ownsRow n e size v k l){a:Nat}{b:ik}{d:kx}(f:eQ w a b d)(g:e≠b){i:Nat}(c:eS):
 (w.setCell (eJ a i) c).ownsRow n e size v k l:=by
 rcases h.2 with⟨rfl,rfl⟩|⟨m,o,r,rfl,rest⟩
 ·exact⟨h.1,.inl ⟨rfl,rfl⟩⟩
 ·have j:=vk h f g;exact qm h (p:=(eJ a i)) (λe=>j e.symm) c
def eF(w w':eI):Prop:=Below w w w'
theorem eF.refl(w:eI):eF w w:=ru _ _
theorem eF.trans{a b c:eI}(h:eF a b)(k:eF b c):eF a c:=Qi h (Below.mono k (Below.size h))
theorem eF.of{a:eI}(h:Below a a w):eF a w:=h
theorem eF.below{a b:eI}(h:eF a b):Below a a b:=h
theorem eF.size{a b:eI}(h:eF a b):a.heap.size<=b.heap.size:=Below.size h
theorem eF.alloc(w:eI)(a:Obj):eF w (w.alloc a):=(ru _ _).alloc (fJ _) _
theorem eF.drew(w:eI):eF w w.drew:=(ru _ _).drew
theorem eF.drewN(a:eI)(b:Nat):eF a (a.drewN b):=⟨rfl,rfl,rfl,fJ _,λ_ _=>rfl⟩
theorem eF.cell{w:eI}(h:eF w u){b a:Nat}{v:eS}(c:w.cell? (eJ b a)=some v):u.cell? (eJ b a)=some v:=
 Ak h.below c (Hv w ⟨b,a,none⟩ c)
theorem eF.eH{w:eI}(h:eF w v){g:Nat}{a:ik}{b:kx}(c:eQ w g a b):eQ v g a b:=eQ.below c h.below c.lt
theorem eF.rd{w:eI}(h:eF w v){A:fE}{xs:fY}(a:Rd w A xs):Rd v A xs:=a.below h.below
theorem eF.own{w w':eI}(h:eF w w'){base:Nat}{e:ik}{size n:Nat}{v:eS}{xs:fY}(a:w.ownsRow base e size v n xs):w'.ownsRow base e size v n xs:=vj a h.below
theorem Mf(a:fe)(i:Nat)(h:i<a.length):(kq a)[i]? =some (.int .u64 ((a.getD i 0:Nat):Int)):=by rw[jx,gg h];simp[kq,h]
theorem Mg(a:fe)(i b:Nat):(kq a).set i (.int .u64 (b:Int))=kq (a.set i b):=by simp[kq,qQ]
theorem Mh(b:fe):∀a∈kq b,a.oneCell'=true:=by intro a c;obtain⟨_,_,rfl⟩:=fy.1 c;rfl
end
end
section
open Go.RowKit
def EW(w0:eI):Type:={u:eI//eF w0 u}
instance {w0:eI}:Nonempty (EW w0):=⟨⟨w0,eF.refl w0⟩⟩
def EW.w{w0:eI}(u:EW w0):eI:=u.1
theorem EW.ext{a:eI}(u:EW a):eF a u.w:=u.2
theorem EW.cell{a:eI}(u:EW a){b c:Nat}{v:eS}(h:a.cell? (eJ b c)=some v):u.w.cell? (eJ b c)=some v:=u.2.cell h
theorem lT{f:Program}{id:Nat}{g:Exit->Act->eI->Prop}{i:Act}{a:eI}{d:List Oper}(h:wpQuiet f d.toArray (λb=>∃c:EW a,b=c.w) (λj=>∀b,(∃c:EW a,b=c.w)->g .normal j b) d i)(k:f.follows .mixedOrders=true:=by kernel_rfl)(l:Region.lexB .any d.toArray=true:=by kernel_rfl):(Code.region id d.toArray true).wp f g i a:=
 wp_region_quiet (C:=λb=>∃c:EW a,b=c.w) k l ⟨⟨{a with drawn:=a.drawn+1},eF.drew a⟩,rfl⟩ (by simpa using h)
theorem kz{c:Program}{d:FuncId}{args:kx}{f:eI}{a:EW f}{g:eS}(h:Calls c d args a.w λe b=>e=fH g/\eF a.w b):Calls c d args a.w λe i=>e=fH g/\∃j:EW f,i=j.w:=
 h.mono λe b ⟨k,l⟩=>⟨k,⟨⟨b,a.2.trans l⟩,rfl⟩⟩
theorem uf{b:Program}{c:FuncId}{args:kx}{d:eI}{a:EW d}{f:eS}(h:Calls b c args a.w λe g=>e=fH f/\a.w=g):Calls b c args a.w λe i=>e=fH f/\∃j:EW d,i=j.w:=
 h.mono λe g ⟨k,l⟩=>⟨k,⟨a,l.symm⟩⟩
end
section
variable{w v u W V U:eI}{n k m i j p b c d g N B K G M:Nat}{x y z X Y Z:eS}{D E:Int}{A H I:fE}{l L J T:fY}{r s t R S:fe}{f:ik}{a:Act}{kY O Q:List Oper}{kE:Oper}{kG:Array Oper}{kH:Program}{kJ:kx}
section
open Go
section
section
variable {P:Program} {ops:Array Oper} {C:eI->Prop} {F:Nat->Bool}
def vl(P:Program)(ops:Array Oper)(C:eI->Prop)(F:Nat->Bool)(Q:Exit->Act->eI->Prop):Nat->Array Bool->Act->eI->Prop
 |0,listed,a,w=>Region.ready .any ops listed=[]/\Q .normal a w
 |fuel+1,listed,a,w=>
  (Region.ready .any ops listed=[]->Q .normal a w)/\
  ∀i∈Region.ready .any ops listed,wpOp P ops QF i (λa' w'=>(F i=true->C w')/\vl P ops C F Q fuel (listed.setIfInBounds i true) a' w') a w
theorem xM{a:Exit->Act->eI->Prop}:∀(fuel:Nat) (b:Array Bool) (c:Act) (d:eI),vl P ops C F a fuel b c d->wpAny P .any ops a fuel b c d
 |0,_,_,_,h=>h
 |fuel+1,_,_,_,h=>⟨h.1,λf g=>xG (λi j k=>xM fuel _ i j k.2) (h.2 f g)⟩
theorem ug{A:Exit->Act->eI->Prop}{D:eI->Prop}(y:ops[n]? =some kE)(B:∀(a:Nat) (E:Oper) m o,ops[a]? =some E->E.op≠ .select m o)(G:((∀b,D b)/\F n=false)\/(D=C/\F n=true/\∃z,∀a,a<ops.size->F a=false->qi ops z a n=true)):
 ∀(p:Nat) (c:Array Bool) (r:Act) (b:eI),D b->Shut ops c->
  (∀a d,ops[a]? =some d->a≠n->c.getD a true=false->(∀e∈d.after,Region.binds .any e=true->e.on≠n)->kE.apart ops d=true)->
  n∈Region.ready .any ops c->ko P ops D kE x r->
  vl P ops C F A p (c.setIfInBounds n true) (r.put kE.dst x) b->vl P ops C F A (p+1) c r b:=by
 have H:∀b,D b->F n=true->C b:=λb S f=>by
  rcases G with⟨_,h⟩|⟨e,_,_⟩
  ·rw[h] at f;cases f
  ·rw[<-e];exact S
 intro p;induction p with
 |zero=>
  intro c r b s _ _ i w t;refine⟨λh=>(by rw[h] at i;cases i),λa u=> ?_⟩;by_cases g:a=n
  ·subst g;exact w.wpOp y s ⟨λf=>H b s f,t⟩
  ·have:=ready_mono u g;rw[t.1] at this;cases this
 |succ p T=>
  intro c r b s I J i w t;refine⟨λh=>(by rw[h] at i;cases i),λa u=> ?_⟩;by_cases g:a=n
  ·subst g;exact w.wpOp y s ⟨λf=>H b s f,t⟩
  ·have j:=t.2 a (ready_mono u g);obtain⟨K,d,v,L⟩:=mem_ready.1 u;have M:c.getD n false=false:=by have U:=(mem_ready.1 i).1;exact getD_both U
   have V:∀e∈d.after,Region.binds .any e=true->e.on≠n:=λe W X heq=>by have j:=L e W X;rw[heq,M] at j;cases j
   have Y:(∀b,D b)\/(D=C/\F a=true):=by
    rcases G with h|⟨j,N,z,k⟩
    ·exact .inl h.1
    ·refine .inr ⟨j, ?_⟩;cases f:F a with
     |true=>rfl
     |false=>
      have:=qj I z a n (λZ ad=>by have:Z=d:=mj (ad.symm.trans v);subst this;exact L) (k a (LV.1 v).1 f)
      rw[M] at this;cases this
   have N:=Aj v (J a d v g K V) (λm o=>B n kE m o y) (λm o=>B a d m o v) w j;have ae:∀l ok,ops[l]? =some ok->l≠n->(c.setIfInBounds a true).getD l true=false->
    (∀e∈ok.after,Region.binds .any e=true->e.on≠n)->kE.apart ops ok=true:=λl ok hk af O ag=>by
    refine J l ok hk af ?_ ag;by_cases Q:a=l
    ·subst Q;exact K
    ·rw[getD_set_ne true Q] at O;exact O
   refine wpOp_mono (λa' R k=>⟨k.2.1, ?_⟩) N;refine T (c.setIfInBounds a true) a' R ?_ (I.set u) ae (ready_mono i (nW g)) k.1 ?_
   ·rcases Y with h|⟨e,h⟩
    ·exact h R
    ·rw[e];exact k.2.1 h
   ·rw[Uj _ _ g];exact k.2.2
inductive Tr where
 |done
 |q (ks:fe) (r:Tr)
 |e (ks:fe) (r:Tr)
 |jG (s t:Tr)
def jq(P:Program)(ops:Array Oper)(C:eI->Prop)(F:Nat->Bool)(Q:Exit->Act->eI->Prop):Tr->Act->eI->Prop
 | .done,a,w=>Q .normal a w
 | .q ks r,a,w=>wpQuiet P ops (λ_=>True) (λa'=>jq P ops C F Q r a' w) (gj ops ks) a
 | .e ks r,a,w=>wpList P ops (QN λa' w'=>(ks.any F=true->C w')/\jq P ops C F Q r a' w') (gj ops ks) a w
 | .jG s t,a,w=>jq P ops C F Q s a w/\jq P ops C F Q t a w
def Tr.flat:Tr->List Tr
 | .q [] r=>flat r
 | .e [] r=>flat r
 | .jG s t=>flat s++flat t
 |s=>[s]
def Tr.Vk(F:Nat->Bool)(k:Nat):Tr->Bool
 | .e (j::ks) _=>j==k&&(ks.isEmpty|| !(j::ks).any F)
 |_=>false
def Tr.next:Tr->Tr
 | .q (_::ks) r=>.q ks r
 | .e (_::ks) r=>.e ks r
 |s=>s
def Jj(ops:Array Oper)(F:Nat->Bool):Nat->Tr->Array Bool->Bool
 |0,s,listed=>(match s.flat with|[.done]=>true|_=>false)&&(Region.ready .any ops listed).isEmpty
 |f+1,s,listed=>match s.flat with
  |[.q (k::ks) r]=>(Region.ready .any ops listed).contains k&&Region.free .any ops listed k&&((ops[k]?).map rq).getD false&& !F k&&Jj ops F f (.q ks r) (listed.setIfInBounds k true)
  |ts=> !(Region.ready .any ops listed).isEmpty&&(Region.ready .any ops listed).all λi=>match ts.find? (Tr.Vk F i) with|some t=>Jj ops F f t.next (listed.setIfInBounds i true)|none=>false
variable {Q:Exit->Act->eI->Prop}
theorem oI:∀(c:Tr) {f:Act} {g:eI},jq P ops C F Q c f g->∀b∈c.flat,jq P ops C F Q b f g
 | .done,_,_,h,b,a=>by simp only[Tr.flat,fF] at a;subst a;exact h
 | .q [] d,_,_,h,b,a=>oI d h b a
 | .e [] d,_,_,h,b,a=>oI d h.2 b a
 | .q (_::_) _,_,_,h,b,a=>by simp only[Tr.flat,fF] at a;subst a;exact h
 | .e (_::_) _,_,_,h,b,a=>by simp only[Tr.flat,fF] at a;subst a;exact h
 | .jG c i,_,_,h,b,a=>(gu.1 a).elim (oI c h.1 b) (oI i h.2 b)
theorem uh{D:eI->Prop}{d:Act->Prop}(i:ops[n]? =some kE)(k:rq kE=true)(h:wpQuiet P ops D d (kE::kY) a):∃c,ko P ops D kE c a/\wpQuiet P ops D d kY (a.put kE.dst c):=by
 have l:qOp P ops D n (wpQuiet P ops D d kY) a:=by unfold qOp;simp only[i];exact h
 obtain⟨c,m,o⟩:=yieldsIn_of_qOp i l;refine⟨c, ?_,o⟩;rcases m with⟨f,p⟩|⟨f,e⟩
 ·refine .inl ⟨f,λj r=> ?_⟩;have b:=p j r;unfold Oper.quietAt at b;cases g:(execOp a.eval kE).run P j with
  |ok t s=>rw[g] at b;obtain⟨u,rfl⟩:=xF k g;simp only[Oper.quietUpon] at b;obtain⟨rfl,rfl⟩:=b;rfl
  |halt e s=>rw[g] at b;simp only[Oper.quietUpon] at b
 ·exact .inr ⟨f,e⟩
theorem Tr.Mi:∀{c:Tr},Tr.Vk F n c=true->∃a b,c=.e (n::a) b/\(a=[]\/(n::a).any F=false)
 | .e (d::a) b,h=>by simp only[Tr.Vk,pC,sT,Qg,List.isEmpty_iff,Mj] at h;exact⟨a,b,by rw[h.1],by rw[<-h.1];exact h.2⟩
theorem qn(s:Region.noSelect ops=true):∀(i:Nat) (c:Tr) (j:Array Bool) (m:Act) (n:eI),Shut ops j->Jj ops F i c j=true->jq P ops C F Q c m n->vl P ops C F Q i j m n
 |0,c,j,m,n,_,a,h=>by
  simp only[Jj,pC,List.isEmpty_iff] at a;have d:=oI c h;generalize c.flat=w at a d;refine⟨a.2, ?_⟩;match w,a,d with
  |[.done],_,d=>exact d _ (fF.2 rfl)
 |i+1,c,j,m,n,t,a,h=>by
  have d:=oI c h;unfold Jj at a;generalize c.flat=w at a d;split at a
  ·next x y K=>
   simp only[pC,Mj] at a;obtain⟨⟨⟨⟨z,A⟩,k⟩,L⟩,f⟩:=a;cases l:ops[x]? with
   |none=>rw[l] at k;cases k
   |some M=>
    rw[l] at k;simp only[qO,pP] at k;have G:x∈Region.ready .any ops j:=by simpa using z
    have o:=d _ (fF.2 rfl);have B:gj ops (x::y)=M::gj ops y:=by simp[gj,l]
    simp only[jq,B] at o;obtain⟨V,N,p⟩:=uh l k o;exact ug (D:=λ_=>True) l (Region.noSelect_spec s) (.inl ⟨λ_=>trivial,L⟩) i j m n trivial t (Region.free_spec l A) G N (qn s i (.q y K) _ _ _ (t.set G) f p)
  ·simp only[pC,Mj,List.isEmpty_eq_false_iff] at a;obtain⟨z,A⟩:=a;refine⟨λk=>absurd k z,λr u=> ?_⟩;have f:=xK.1 A r u;obtain⟨_,O,H,_⟩:=mem_ready.1 u;cases b:w.find? (Tr.Vk F r) with
   |none=>rw[b] at f;cases f
   |some R=>
    rw[b] at f;simp only at f;have g:=Ml b;have o:=d R (Dj b);have S:=Tr.Mi g;clear b g;obtain⟨v,T,e,g⟩:=S;subst e
    ·have B:gj ops (r::v)=O::gj ops v:=by simp[gj,H]
     simp only[jq,B] at o;refine De H (λI E p=> ?_) o;rcases g with rfl|g
     ·have J:(([r]:fe).any F=true->C E)/\jq P ops C F Q T I E:=p;refine⟨λb=>J.1 (by simp[b]),qn s i _ _ _ _ (t.set u) f ?_⟩;show wpList P ops _ [] I E;exact⟨λb=>by simp at b,J.2⟩
     ·refine⟨λb=>by simp[b] at g,qn s i _ _ _ _ (t.set u) f ?_⟩;simp only[List.any_cons,SV] at g;have U:(r::v).any F=v.any F:=by simp[g.1]
      rw[U] at p;exact p
def Hx(ops:Array Oper)(F:Nat->Bool)(n:Nat)(s:Tr):fe->Array Bool->Bool
 |[],listed=>Jj ops F n s listed
 |k::r,listed=>(Region.ready .any ops listed).contains k&&Region.free .any ops listed k&&Hx ops F n s r (listed.setIfInBounds k true)
theorem xN{N:Nat}{m:Tr}(o:Region.noSelect ops=true):
 ∀(a:fe) (b:Array Bool) (d:Act) (c:eI),C c->Shut ops b->(∀f∈a,∃g,ops[f]? =some g/\rq g=true/\F f=true/\∀p,p<ops.size->F p=false->qi ops N p f=true)->
 Hx ops F n m a b=true->wpQuiet P ops C (λu=>jq P ops C F Q m u c) (gj ops a) d->vl P ops C F Q (a.length+n) b d c
 |[],b,d,c,r,i,_,j,h=>by
  rw[jH,lH];exact qn o n m b d c i j h
 |k::a,b,d,c,r,i,s,j,h=>by
  obtain⟨g,l,v,w,x⟩:=s k (gM ..);have y:gj ops (k::a)=g::gj ops a:=by simp[gj,l]
  rw[y] at h;simp only[Hx,pC] at j;obtain⟨⟨z,A⟩,B⟩:=j;have t:k∈Region.ready .any ops b:=by simpa using z
  obtain⟨I,E,G⟩:=uh l v h;rw[show(k::a).length+n=(a.length+n)+1 by simp;omega];exact ug (D:=C) l (Region.noSelect_spec o) (.inr ⟨rfl,w,N,x⟩) _ b d c r i (Region.free_spec l A) t E
   (xN o a _ _ c r (i.set t) (λf H=>s f (gD _ H)) B G)
end
def Vl(ops:Array Oper)(hd m:fe)(s:Tr):Bool:=
 Region.noSelect ops&&hd.all (λi=>((ops[i]?).map rq).getD false)&&
 (List.range ops.size).all (λj=>hd.contains j||m.contains j||hd.all (λi=>qi ops ops.size j i))&&decide (hd.length<=ops.size)&&
 Hx ops (λj=>hd.contains j||m.contains j) (ops.size- hd.length) s hd (Array.replicate ops.size false)
theorem jA{P:Program}{id:Nat}{d:Exit->Act->eI->Prop}{w:eI}{l:List Oper}(b m:fe)(n:Tr)(C:eI->Prop)(s:P.follows .mixedOrders=true)(o:Vl l.toArray b m n=true)(t:gj l.toArray b=kY)(u:C w.drew)(h:wpQuiet P l.toArray C (λv=>jq P l.toArray C (λj=>b.contains j||m.contains j) d n v w.drew) kY a):(Code.region id l.toArray true).wp P d a w:=by
 subst t;simp only[Vl,pC,jh] at o;obtain⟨⟨⟨⟨x,y⟩,z⟩,A⟩,B⟩:=o;refine wp_region_any s ?_;have D:wpAny P .any l.toArray d (b.length+(l.toArray.size- b.length)) (Array.replicate l.toArray.size false) a {w with drawn:=w.drawn+1}:= ?_
 ·rwa [Nat.add_sub_cancel' A] at D
 refine xM (C:=C) (F:=λj=>b.contains j||m.contains j) _ _ _ _ ?_;refine xN (N:=l.toArray.size) x b _ a _ u (λj H _ p=>(by rw[getD_replicate_false] at p;cases p)) (λf g=> ?_) B h;have c:=xK.1 y f g;cases r:l.toArray[f]? with
 |none=>rw[r] at c;cases c
 |some E=>rw[r] at c;simp only[qO,pP] at c;refine⟨E,rfl,c,by simp[g],λj G i=> ?_⟩;have k:=xK.1 z j (ll.2 G);simp only[SV] at i;rw[i.1,i.2] at k;simp only[SX] at k;exact xK.1 k f g
theorem fj{P:Program}{C:eI->Prop}{F:Nat->Bool}{b:Exit->Act->eI->Prop}{s:Tr}{l:List Oper}{a:Act}{w:eI}(h:wpQuiet P kG (λ_=>True) (λc=>jq P kG C F b s c w) l a)(d:gj kG r=l:=by simp[gj];first|rfl|exact⟨rfl,rfl⟩):jq P kG C F b (.q r s) a w:=by subst d;exact h
theorem eT{P:Program}{d:eI->Prop}{F:Nat->Bool}{f:Exit->Act->eI->Prop}{s:Tr}{l:List Oper}{a:Act}{w:eI}(h:wpList P kG (QN λc b=>jq P kG d F f s c b) l a w)(g:gj kG r=l:=by simp[gj];first|rfl|exact⟨rfl,rfl⟩)(hF:r.any F=false:=by rfl):jq P kG d F f (.e r s) a w:=by
 subst g;show wpList P kG (QN λc b=>(r.any F=true->d b)/\jq P kG d F f s c b) _ a w;have:(λ(c:Act) (b:eI)=>(r.any F=true->d b)/\jq P kG d F f s c b)=λc b=>jq P kG d F f s c b:=by
  funext c b
  simp[hF]
 rw[this];exact h
theorem eZ{P:Program}{C:eI->Prop}{d:Nat->Bool}{Q:Exit->Act->eI->Prop}{k:Nat}{f:Tr}{a:Act}{w:eI}(h:wpList P kG (QN λc b=>C b/\jq P kG C d Q f c b) [kE] a w)(i:gj kG [k]=[kE]:=by simp[gj];first|rfl|exact⟨rfl,rfl⟩):jq P kG C d Q (.e [k] f) a w:=by
 show wpList P kG (QN λc b=>([k].any d=true->C b)/\jq P kG C d Q f c b) _ a w;rw[i];cases hF:[k].any d with
 |true=>simpa using h
 |false=>
  simp only[Dc,false_implies,ky];simp only[wpList] at h ⊢;split at h
  ·rename_i g;simp only[g,nV];rcases h with h|⟨m,n,o,j⟩
   ·refine .inl ?_;have l:=R4 (K':=λc b=>C b/\jq P kG C d Q f c b) (λc b h=>h) h;exact Db (Q:=QN λc b=>jq P kG C d Q f c b) (λc b h=>h.2) l
   ·exact j.elim
  ·rename_i g;simp only[g];exact h.2
theorem fX{P:Program}{C:eI->Prop}{b:Nat->Bool}{c:Exit->Act->eI->Prop}{d f:Tr}{a:Act}{w:eI}(h:jq P kG C b c d a w)(g:jq P kG C b c f a w):jq P kG C b c (.jG d f) a w:=⟨h,g⟩
theorem fP{P:Program}{C:eI->Prop}{F:Nat->Bool}{b:Exit->Act->eI->Prop}{a:Act}{w:eI}(h:b .normal a w):jq P kG C F b .done a w:=h
theorem R6{d:Prop}{P A:eI->Nat->Nat->Prop}(k:(∀a b c,A a b c->P a b c)->d)(l:∀a b c,A a b c->P a b c):d:=k l
theorem Uk{f:Prop}{P g:eI->Nat->Nat->Nat->Nat->Prop}(k:(∀v a b c d,g v a b c d->P v a b c d)->f)(l:∀v a b c d,g v a b c d->P v a b c d):f:=k l
theorem iW{P:Program}{id:Nat}{d:Exit->Act->eI->Prop}{a:Act}{w:eI}{l:List Oper}(b m:fe)(s:Tr)(h:wpQuiet P l.toArray (λc=>∃u:EW w,c=u.w) (λf=>jq P l.toArray (λc=>∃u:EW w,c=u.w) (λj=>b.contains j||m.contains j) d s f w.drew) kY a)(g:P.follows .mixedOrders=true:=by kernel_rfl)(i:Vl l.toArray b m s=true:=by kernel_rfl)(k:gj l.toArray b=kY:=by simp[gj];first|rfl|exact⟨rfl,rfl⟩):(Code.region id l.toArray true).wp P d a w:=
 jA b m s _ g i k ⟨⟨w.drew,eF.drew w⟩,rfl⟩ h
theorem rx{P:Program}{id:Nat}{f:Exit->Act->eI->Prop}{a:Act}{l:List Oper}(g b m:fe)(c:Tr)(h:wpQuiet P l.toArray (λd=>∃u:KW g w,d=u.w) (λj=>jq P l.toArray (λd=>∃u:KW g w,d=u.w) (λi=>b.contains i||m.contains i) f c j w.drew) kY a)(k:P.follows .mixedOrders=true:=by kernel_rfl)(n:Vl l.toArray b m c=true:=by kernel_rfl)(o:gj l.toArray b=kY:=by simp[gj];first|rfl|exact⟨rfl,rfl⟩):(Code.region id l.toArray true).wp P f a w:=
 jA b m c _ k n o ⟨⟨w.drew,λ_ _=>rfl⟩,rfl⟩ h
end
end
section
open Go Go.RowKit
theorem eQ.ce{w:eI}{g:Nat}(h:eQ w g f kJ)(i:Nat)(v:eS)(a:kJ[i]? =some v:=by rfl):w.cell? ⟨g,i,none⟩=some v:=h.cell i a
theorem oO{w:eI}{v:eS}(h:w.cell? ⟨n,k,none⟩=some v)(a:EW w):a.w.cell? ⟨n,k,none⟩=some v:=a.cell h
theorem eQ.ew{w:eI}{g:Nat}(h:eQ w g f kJ)(i:Nat)(v:eS)(a:kJ[i]? =some v)(u:EW w):u.w.cell? ⟨g,i,none⟩=some v:=u.cell (h.cell i a)
theorem mY{P:Program}{id:Nat}{d:Exit->Act->eI->Prop}{l lt:List Oper}(c b:fe)(h:wpQuiet P l.toArray (λf=>∃g:EW w,f=g.w) (λi=>wpList P l.toArray d lt i w.drew) kY a)(j:P.follows .mixedOrders=true:=by kernel_rfl)(k:Qh l.toArray c b 0=true:=by kernel_rfl)(m:decide b.Nodup=true:=by decide)(n:gj l.toArray c=kY:=by simp[gj];rfl)(o:gj l.toArray b=lt:=by simp[gj];first|rfl|exact⟨rfl,rfl⟩):(Code.region id l.toArray true).wp P d a w:=
 mC c b _ j k m n o ⟨⟨w.drew,eF.drew w⟩,rfl⟩ h
theorem R7{id:Nat}{d:Exit->Act->eI->Prop}{lt:List Oper}(c b:fe)(h:wpQuiet kH kY.toArray (λg=>∃u:EW w,g=u.w) (λi=>wpList kH kY.toArray (QN λj f=>(∃u:EW w,f=u.w)/\wpList kH kY.toArray d lt j f) [kE] i w.drew) O a)(k:kH.follows .mixedOrders=true:=by kernel_rfl)(l:Qh kY.toArray c b 1=true:=by kernel_rfl)(m:decide b.Nodup=true:=by decide)(n:gj kY.toArray c=O:=by simp[gj];rfl)(o:gj kY.toArray b=kE::lt:=by simp[gj];first|rfl|exact⟨rfl,rfl⟩):(Code.region id kY.toArray true).wp kH d a w:=
 mD c b _ k l m n o ⟨⟨w.drew,eF.drew w⟩,rfl⟩ h
theorem xO{P:Program}{id:Nat}{i:Exit->Act->eI->Prop}{lt:List Oper}(c b:fe)(d:Nat)(h:wpQuiet P kY.toArray (λf=>∃g:EW w,f=g.w) (λj=>xH P kY.toArray (λf=>∃g:EW w,f=g.w) i d lt j w.drew) O a)(k:P.follows .mixedOrders=true:=by kernel_rfl)(l:Qh kY.toArray c b d=true:=by kernel_rfl)(m:decide b.Nodup=true:=by decide)(n:gj kY.toArray c=O:=by simp[gj];rfl)(o:gj kY.toArray b=lt:=by simp[gj];first|rfl|exact⟨rfl,rfl⟩):(Code.region id kY.toArray true).wp P i a w:=
 om c b d _ k l m n o ⟨⟨w.drew,eF.drew w⟩,rfl⟩ h
instance {α:Type}(l:List α):CoeDep (List α) l Nat:=⟨l.length⟩
theorem oP{a:Obj}:eF w (w.alloc a):=eF.alloc w a
theorem iH{b:Act->eI->Prop}{a:Act}{w:eI}(h:b a w):QN b .normal a w:=by rw[m8];exact h
end
section
open Go.RowKit
def rk(op a n:Int):eS:=fV #[eE op,eE a,eE 0,eE 0,eE n]
