/- TopOnce: part 12 of the proof. -/
import Derived.Test.YtoaehdgokeicoaaGreatDoorZ10
set_option maxRecDepth 100000
set_option maxHeartbeats 30000000
set_option linter.all false
namespace Go.Proofs.YtoaehdgokeicoaaGreatDoor
open K9 Z9 Go.Proofs.Tryz
section
variable{w v u W V U:eI}{n k m i j p b c d g N B K G M:Nat}{x y z X Y Z:eS}{D E F:Int}{A C H I:fE}{l L J T:fY}{r s t R S:fe}{f:ik}{a:Act}{O P Q:List Oper}{kE:Oper}{kG:Array Oper}{kM kN:fS}{kR:gh}
section
open Go.RowKit
theorem zN:(prog.info? 3).map (λa=>(a.zero,a.size,a.bytes))=some (some (.int .i64 0),1,8):=by kernel_rfl
theorem En{rest:List Oper}{m:Exit->Act->eI->Prop}(p:kE.guard=none)(g i:Operand)(r:kE.op=.call {callee:=.builtin .append,args:=#[g,i],argTypes:=#[23,23]}){b:eS}{f:Nat}{j:fY}(h:w.ownsRow n 3 1 b f j)(s:n<=w.heap.size)(t:a.eval g=b)(k:fE)(o:Nat)(c:fY)(d:Nat)(u:a.eval i=.slice k d o)(v:c.length=d*1)(x:Rd w k c)(y:∀z∈c,z.oneCell'=true)(G:f+d<=1000000)(A:∀v' l,l.ownsRow n 3 1 v' (f+d) (j++c)->w.grownBy l b.ownBlock->(v'.ownBlock=b.ownBlock\/v'.ownBlock=some w.heap.size)->wpList prog kG m rest (a.put kE.dst v') l):wpList prog kG m (kE::rest) a w:=by obtain⟨B,C,D,E,F⟩:=info_parts zN;exact fB p g i 23 r n 3 B _ 1 8 underlying23 C D E F rfl (by omega) b f j t h k o c d u v x y (by unfold maxLen;omega) (by omega) s A
theorem jQ{rest:List Oper}{a:Act}{i:Exit->Act->eI->Prop}(j:kE.guard=none)(f x:Operand)(l:kE.op=.call {callee:=.builtin .append,args:=#[f,x],argTypes:=#[23,23]}){v:eS}{n:Nat}{xs:fY}(h:w.ownsRow m 3 1 v n xs)(A:m<=w.heap.size)(o:a.eval f=v)(b:fY)(p:a.eval x=fN w 1 1)(r:b.length=1)(s:∀u∈b,u.oneCell'=true)(B:n<1000000)(t:∀v' c,c.ownsRow m 3 1 v' (n+1) (xs++b)->(w.alloc (eN b.toArray 3)).grownBy c v.ownBlock->(∀k,v'.ownBlock=some k->v.ownBlock=some k\/w.heap.size<=k)->wpList prog kG i rest (a.put kE.dst v') c):wpList prog kG i (kE::rest) a (w.alloc (eN b.toArray 3)):=
 En j f x l ((eF.alloc _ _).own h) (by rw[fM];omega) o _ 1 b 1 p (by simpa using r) (by simpa using ip w b.toArray _) s (by omega) λv' c y z d=>t v' c y z λk g=>by
  rcases d with d|d
  ·exact .inl (d▸g)
  ·rw[d] at g;simp only[fM,fd] at g;exact .inr (by omega)
theorem zO:(prog.info? 270).map (λa=>(a.zero,a.size,a.bytes))=some (some (.int .u64 0),1,8):=by kernel_rfl
theorem Ni{rest:List Oper}{o:Exit->Act->eI->Prop}(r:kE.guard=none)(i j:Operand)(s:kE.op=.call {callee:=.builtin .append,args:=#[i,j],argTypes:=#[166,166]}){b:eS}{f:Nat}{k:fY}(h:w.ownsRow n 270 1 b f k)(t:n<=w.heap.size)(u:a.eval i=b)(l:fE)(p:Nat)(c:fY)(d:Nat)(v:a.eval j=.slice l d p)(x:c.length=d*1)(y:Rd w l c)(z:∀A∈c,A.oneCell'=true)(H:f+d<=1000000)(B:∀g m,m.ownsRow n 270 1 g (f+d) (k++c)->w.grownBy m b.ownBlock->(g.ownBlock=b.ownBlock\/g.ownBlock=some w.heap.size)->wpList prog kG o rest (a.put kE.dst g) m):wpList prog kG o (kE::rest) a w:=by obtain⟨C,D,E,F,G⟩:=info_parts zO;exact fB r i j 166 s n 270 C _ 1 8 underlying166 D E F G rfl (by omega) b f k u h l p c d v x y z (by unfold maxLen;omega) (by omega) t B
theorem J8{rest:List Oper}{o:Exit->Act->eI->Prop}(r:kE.guard=none)(j k:Operand)(s:kE.op=.call {callee:=.builtin .append,args:=#[j,k],argTypes:=#[166,166]}){g:eS}{l:Nat}{p:fY}(h:w.ownsRow n 270 1 g l p)(C:n<=w.heap.size)(t:a.eval j=g)(b:fY)(u:a.eval k=fN w 1 1)(v:b.length=1)(x:∀y∈b,y.oneCell'=true)(D:l<1000000)(z:∀c d,d.ownsRow n 270 1 c (l+1) (p++b)->(w.alloc (eN b.toArray 270)).grownBy d g.ownBlock->(∀i,c.ownBlock=some i->g.ownBlock=some i\/w.heap.size<=i)->wpList prog kG o rest (a.put kE.dst c) d):wpList prog kG o (kE::rest) a (w.alloc (eN b.toArray 270)):=
 Ni r j k s ((eF.alloc _ _).own h) (by rw[fM];omega) t _ 1 b 1 u (by simpa using v) (by simpa using ip w b.toArray _) x (by omega) λc d A B f=>z c d A B λi m=>by
  rcases f with f|f
  ·exact .inl (f▸m)
  ·rw[f] at m;simp only[fM,fd] at m;exact .inr (by omega)
theorem zP:(prog.info? 23).map (λa=>(a.zero,a.size,a.bytes))=some (some (.slice none 0 0),1,24):=by kernel_rfl
theorem Nj{rest:List Oper}{o:Exit->Act->eI->Prop}(r:kE.guard=none)(i j:Operand)(s:kE.op=.call {callee:=.builtin .append,args:=#[i,j],argTypes:=#[22,22]}){b:eS}{f:Nat}{k:fY}(h:w.ownsRow n 23 1 b f k)(t:n<=w.heap.size)(u:a.eval i=b)(l:fE)(p:Nat)(c:fY)(d:Nat)(v:a.eval j=.slice l d p)(x:c.length=d*1)(y:Rd w l c)(z:∀A∈c,A.oneCell'=true)(H:f+d<=1000000)(B:∀g m,m.ownsRow n 23 1 g (f+d) (k++c)->w.grownBy m b.ownBlock->(g.ownBlock=b.ownBlock\/g.ownBlock=some w.heap.size)->wpList prog kG o rest (a.put kE.dst g) m):wpList prog kG o (kE::rest) a w:=by obtain⟨C,D,E,F,G⟩:=info_parts zP;exact fB r i j 22 s n 23 C _ 1 24 underlying22 D E F G rfl (by omega) b f k u h l p c d v x y z (by unfold maxLen;omega) (by omega) t B
theorem AY{rest:List Oper}{l:Exit->Act->eI->Prop}(o:kE.guard=none)(g i:Operand)(p:kE.op=.call {callee:=.builtin .append,args:=#[g,i],argTypes:=#[22,22]}){v:eS}{n:Nat}{xs:fY}(h:w.ownsRow m 23 1 v n xs)(B:m<=w.heap.size)(r:a.eval g=v)(b:fY)(s:a.eval i=fN w 1 1)(t:b.length=1)(u:∀x∈b,x.oneCell'=true)(C:n<1000000)(y:∀c d,d.ownsRow m 23 1 c (n+1) (xs++b)->(w.alloc (eN b.toArray 23)).grownBy d v.ownBlock->(∀k,c.ownBlock=some k->v.ownBlock=some k\/w.heap.size<=k)->wpList prog kG l rest (a.put kE.dst c) d):wpList prog kG l (kE::rest) a (w.alloc (eN b.toArray 23)):=
 Nj o g i p ((eF.alloc _ _).own h) (by rw[fM];omega) r _ 1 b 1 s (by simpa using t) (by simpa using ip w b.toArray _) u (by omega) λc d z A f=>y c d z A λk j=>by
  rcases f with f|f
  ·exact .inl (f▸j)
  ·rw[f] at j;simp only[fM,fd] at j;exact .inr (by omega)
theorem zQ:(prog.info? 255).map (λa=>(a.zero,a.size,a.bytes))=some (some (.agg #[.int .i64 0,.int .i64 0,.slice none 0 0,.int .i64 0]),4,48):=by kernel_rfl
theorem Nk{rest:List Oper}{o:Exit->Act->eI->Prop}(r:kE.guard=none)(i j:Operand)(s:kE.op=.call {callee:=.builtin .append,args:=#[i,j],argTypes:=#[164,164]}){b:eS}{f:Nat}{k:fY}(h:w.ownsRow n 255 4 b f k)(t:n<=w.heap.size)(u:a.eval i=b)(l:fE)(p:Nat)(c:fY)(d:Nat)(v:a.eval j=.slice l d p)(x:c.length=d*4)(y:Rd w l c)(z:∀A∈c,A.oneCell'=true)(H:f+d<=1000000)(B:∀g m,m.ownsRow n 255 4 g (f+d) (k++c)->w.grownBy m b.ownBlock->(g.ownBlock=b.ownBlock\/g.ownBlock=some w.heap.size)->wpList prog kG o rest (a.put kE.dst g) m):wpList prog kG o (kE::rest) a w:=by obtain⟨C,D,E,F,G⟩:=info_parts zQ;exact fB r i j 164 s n 255 C _ 4 48 underlying164 D E F G rfl (by omega) b f k u h l p c d v x y z (by unfold maxLen;omega) (by omega) t B
theorem AZ{rest:List Oper}{o:Exit->Act->eI->Prop}(r:kE.guard=none)(i j:Operand)(s:kE.op=.call {callee:=.builtin .append,args:=#[i,j],argTypes:=#[164,164]}){g:eS}{l:Nat}{p:fY}(h:w.ownsRow n 255 4 g l p)(C:n<=w.heap.size)(t:a.eval i=g)(b:fY)(u:a.eval j=fN w 1 1)(v:b.length=4)(x:∀y∈b,y.oneCell'=true)(D:l<1000000)(z:∀c d,d.ownsRow n 255 4 c (l+1) (p++b)->(w.alloc (eN b.toArray 255)).grownBy d g.ownBlock->(∀k,c.ownBlock=some k->g.ownBlock=some k\/w.heap.size<=k)->wpList prog kG o rest (a.put kE.dst c) d):wpList prog kG o (kE::rest) a (w.alloc (eN b.toArray 255)):=
 Nk r i j s ((eF.alloc _ _).own h) (by rw[fM];omega) t _ 1 b 1 u (by simpa using v) (by simpa using ip w b.toArray _) x (by omega) λc d A B f=>z c d A B λk m=>by
  rcases f with f|f
  ·exact .inl (f▸m)
  ·rw[f] at m;simp only[fM,fd] at m;exact .inr (by omega)
theorem yG:(prog.info? 130).map (λa=>(a.zero,a.size,a.bytes))=some (some (.agg #[.string ByteArray.empty,.slice none 0 0]),2,40):=by kernel_rfl
theorem A8{w:eI}{rest:List Oper}{o:Exit->Act->eI->Prop}(r:kE.guard=none)(i j:Operand)(s:kE.op=.call {callee:=.builtin .append,args:=#[i,j],argTypes:=#[46,46]}){b:eS}{f:Nat}{k:fY}(h:w.ownsRow n 130 2 b f k)(t:n<=w.heap.size)(v:a.eval i=b)(l:fE)(p:Nat)(c:fY)(d:Nat)(x:a.eval j=.slice l d p)(y:c.length=d*2)(z:Rd w l c)(A:∀u∈c,u.oneCell'=true)(H:f+d<=1000000)(B:∀g m,m.ownsRow n 130 2 g (f+d) (k++c)->w.grownBy m b.ownBlock->(g.ownBlock=b.ownBlock\/g.ownBlock=some w.heap.size)->wpList prog kG o rest (a.put kE.dst g) m):wpList prog kG o (kE::rest) a w:=by obtain⟨C,D,E,F,G⟩:=info_parts yG;exact fB r i j 46 s n 130 C _ 2 40 underlying46 D E F G rfl (by omega) b f k v h l p c d x y z A (by unfold maxLen;omega) (by omega) t B
theorem yH{rest:List Oper}{o:Exit->Act->eI->Prop}(r:kE.guard=none)(i j:Operand)(s:kE.op=.call {callee:=.builtin .append,args:=#[i,j],argTypes:=#[46,46]}){g:eS}{l:Nat}{p:fY}(h:w.ownsRow n 130 2 g l p)(C:n<=w.heap.size)(t:a.eval i=g)(b:fY)(u:a.eval j=fN w 1 1)(v:b.length=2)(x:∀y∈b,y.oneCell'=true)(D:l<1000000)(z:∀c d,d.ownsRow n 130 2 c (l+1) (p++b)->(w.alloc (eN b.toArray 130)).grownBy d g.ownBlock->(∀k,c.ownBlock=some k->g.ownBlock=some k\/w.heap.size<=k)->wpList prog kG o rest (a.put kE.dst c) d):wpList prog kG o (kE::rest) a (w.alloc (eN b.toArray 130)):=
 A8 r i j s ((eF.alloc _ _).own h) (by rw[fM];omega) t _ 1 b 1 u (by simpa using v) (by simpa using ip w b.toArray _) x (by omega) λc d A B f=>z c d A B λk m=>by
  rcases f with f|f
  ·exact .inl (f▸m)
  ·rw[f] at m;simp only[fM,fd] at m;exact .inr (by omega)
theorem zR:(prog.info? 118).map (λa=>(a.zero,a.size,a.bytes))=some (some (.agg #[.string ByteArray.empty,.string ByteArray.empty,.bool false,.int .i64 0,.bool false,.int .i64 0,.bool false,.int .i64 0,.int .i64 0]),9,88):=by kernel_rfl
theorem Nl{rest:List Oper}{o:Exit->Act->eI->Prop}(r:kE.guard=none)(i j:Operand)(s:kE.op=.call {callee:=.builtin .append,args:=#[i,j],argTypes:=#[165,165]}){b:eS}{f:Nat}{k:fY}(h:w.ownsRow n 118 9 b f k)(t:n<=w.heap.size)(u:a.eval i=b)(l:fE)(p:Nat)(c:fY)(d:Nat)(v:a.eval j=.slice l d p)(x:c.length=d*9)(y:Rd w l c)(z:∀A∈c,A.oneCell'=true)(H:f+d<=1000000)(B:∀g m,m.ownsRow n 118 9 g (f+d) (k++c)->w.grownBy m b.ownBlock->(g.ownBlock=b.ownBlock\/g.ownBlock=some w.heap.size)->wpList prog kG o rest (a.put kE.dst g) m):wpList prog kG o (kE::rest) a w:=by obtain⟨C,D,E,F,G⟩:=info_parts zR;exact fB r i j 165 s n 118 C _ 9 88 underlying165 D E F G rfl (by omega) b f k u h l p c d v x y z (by unfold maxLen;omega) (by omega) t B
theorem Ba{rest:List Oper}{o:Exit->Act->eI->Prop}(r:kE.guard=none)(j k:Operand)(s:kE.op=.call {callee:=.builtin .append,args:=#[j,k],argTypes:=#[165,165]}){g:eS}{l:Nat}{p:fY}(h:w.ownsRow n 118 9 g l p)(C:n<=w.heap.size)(t:a.eval j=g)(b:fY)(u:a.eval k=fN w 1 1)(v:b.length=9)(x:∀y∈b,y.oneCell'=true)(D:l<1000000)(z:∀c d,d.ownsRow n 118 9 c (l+1) (p++b)->(w.alloc (eN b.toArray 118)).grownBy d g.ownBlock->(∀i,c.ownBlock=some i->g.ownBlock=some i\/w.heap.size<=i)->wpList prog kG o rest (a.put kE.dst c) d):wpList prog kG o (kE::rest) a (w.alloc (eN b.toArray 118)):=
 Nl r j k s ((eF.alloc _ _).own h) (by rw[fM];omega) t _ 1 b 1 u (by simpa using v) (by simpa using ip w b.toArray _) x (by omega) λc d A B f=>z c d A B λi m=>by
  rcases f with f|f
  ·exact .inl (f▸m)
  ·rw[f] at m;simp only[fM,fd] at m;exact .inr (by omega)
theorem zS:(prog.info? 177).map (λa=>(a.zero,a.size,a.bytes))=some (some (.agg #[.int .i64 0,.string ByteArray.empty,.int .i64 0,.string ByteArray.empty,.int .i64 0,.slice none 0 0,.slice none 0 0,.slice none 0 0,.slice none 0 0,.slice none 0 0,.slice none 0 0,.int .i64 0,.slice none 0 0,.slice none 0 0,.slice none 0 0,.slice none 0 0,.slice none 0 0,.int .i64 0,.int .i64 0,.int .i64 0,.bool false,.bool false,.slice none 0 0,.slice none 0 0,.slice none 0 0,.int .i64 0,.slice none 0 0]),27,464):=by kernel_rfl
theorem Nn{rest:List Oper}{o:Exit->Act->eI->Prop}(r:kE.guard=none)(i j:Operand)(s:kE.op=.call {callee:=.builtin .append,args:=#[i,j],argTypes:=#[95,95]}){b:eS}{f:Nat}{k:fY}(h:w.ownsRow n 177 27 b f k)(t:n<=w.heap.size)(u:a.eval i=b)(l:fE)(p:Nat)(c:fY)(d:Nat)(v:a.eval j=.slice l d p)(x:c.length=d*27)(y:Rd w l c)(z:∀A∈c,A.oneCell'=true)(H:f+d<=1000000)(B:∀g m,m.ownsRow n 177 27 g (f+d) (k++c)->w.grownBy m b.ownBlock->(g.ownBlock=b.ownBlock\/g.ownBlock=some w.heap.size)->wpList prog kG o rest (a.put kE.dst g) m):wpList prog kG o (kE::rest) a w:=by obtain⟨C,D,E,F,G⟩:=info_parts zS;exact fB r i j 95 s n 177 C _ 27 464 underlying95 D E F G rfl (by omega) b f k u h l p c d v x y z (by unfold maxLen;omega) (by omega) t B
theorem Bb{rest:List Oper}{m:Exit->Act->eI->Prop}(o:kE.guard=none)(i j:Operand)(p:kE.op=.call {callee:=.builtin .append,args:=#[i,j],argTypes:=#[95,95]}){v:eS}{k:Nat}{xs:fY}(h:w.ownsRow n 177 27 v k xs)(B:n<=w.heap.size)(r:a.eval i=v)(b:fY)(s:a.eval j=fN w 1 1)(t:b.length=27)(u:∀x∈b,x.oneCell'=true)(C:k<1000000)(y:∀c d,d.ownsRow n 177 27 c (k+1) (xs++b)->(w.alloc (eN b.toArray 177)).grownBy d v.ownBlock->(∀g,c.ownBlock=some g->v.ownBlock=some g\/w.heap.size<=g)->wpList prog kG m rest (a.put kE.dst c) d):wpList prog kG m (kE::rest) a (w.alloc (eN b.toArray 177)):=
 Nn o i j p ((eF.alloc _ _).own h) (by rw[fM];omega) r _ 1 b 1 s (by simpa using t) (by simpa using ip w b.toArray _) u (by omega) λc d z A f=>y c d z A λg l=>by
  rcases f with f|f
  ·exact .inl (f▸l)
  ·rw[f] at l;simp only[fM,fd] at l;exact .inr (by omega)
end
section
open Go.RowKit Pl
theorem Nx(size:Int)(a:WS):ma size a []=(if iS size then a else iX a 1):=rfl
theorem Kb(size:Int)(a:WS)(b:fS)(c:Int):ma size a (b++[c])=ln size (ma size a b) c:=by simp[ma]
theorem Et(size:Int)(b:fS):∀a:WS,a.1≠0->b.foldl (ln size) a=a:=by
 intro a h;induction b with
 |nil=>rfl
 |cons d b c=>rw[nK];simpa[ln,h] using c
theorem Cs(size:Int)(a:WS)(b:fS)(h:iS size=false):ma size a b=iX a 1:=by unfold ma;rw[h];exact Et size b _ (by by_cases c:a.1=0<;>simp[iX,c])
theorem GJ(size:Int)(b:fS):∀a:WS,a.1≠0->ma size a b=a:=by
 intro a h;have c:(if iS size then a else iX a 1)=a:=by
  split
  ·rfl
  ·simp[iX,h]
 unfold ma;rw[c];induction b with
 |nil=>rfl
 |cons f b d=>rw[nK];simpa[ln,h] using d
theorem Eu(size:Int)(c:iS size=true)(b:fS):∀a:WS,(ma size a b).2.length<=a.2.length+8*b.length:=by
 unfold ma;rw[c];simp only[nV];induction b with
 |nil=>intro a;simp
 |cons d b f=>
  intro a;rw[nK];have g:=f (ln size a d);have i:(ln size a d).2.length<=a.2.length+8:=by
   unfold ln;split
   ·split
    ·have:=jB c;simp[iB];omega
    ·simp
   ·simp
  simp only[iw];omega
theorem GK(a:fS)(b:Nat)(h:b<a.length):a.take (b+1)=a.take b++[a.getD b 0]:=by rw[iz h,jx,gg h];rfl
theorem Kc{b:Type}{d:b}{a:List b}(h:n<a.length):a.getD n d∈a:=by rw[jx,gg h];exact eU _
theorem Ct(j:Nat)(m:WS)(p:eS)(size:Int)(F:fE)(ae:Nat)(a:fS)(u:eI)(h:vu u j m p)(M:Rd u F (ints a))(N:∀d∈a, -9223372036854775808<=d/\d<=9223372036854775807)(r:∀w af,F=some (eJ w af)->0<(ints a).length->¬ftp j p w)(ag: -9223372036854775808<=size/\size<=9223372036854775807)(ao:m.2.length+8*a.length<=140737488355328):
 Calls prog 97 #[fw j,eE size,.slice F a ae] u λah w'=>ah=fH (ij #[])/\∃o,wE j u p w' (ma size m a) o:=by
 obtain⟨i0,ai,aj,ak,al⟩:=info_parts uo;have O:=eD h;have P:=eD M;have ap:=eD N;have Q:=eD r;clear h M N r;go_in;go_wp2_with fail
 refine(Bd _ _).mono ?_;rintro e w1 ⟨rfl,rfl⟩;cases x:iS size
 ·have s:=eD (Cs size m a x);clear x;go_wp2_with fail
  refine(uL j 0 m p 1 _ O).mono ?_;rintro e w1 ⟨rfl,A⟩;have t:(iX m 1).1≠0:=by by_cases h0:m.1=0<;>simp[iX,h0]
  generalize aq:iX m 1=R at*;have n:=A.st.eH.ce 0 (eE R.1);have y:(R.1==0)=false:=by simp[t]
  have RN:=eD (A.lS.VC P Q);have H1:=eD A;clear A t;have hl:a.length<=9223372036854775807:=by omega
  go_wp2;go_loop [18] (λf=>∃c:Nat,c<=a.length/\f=eE c) (λf=>a.length- (intOf f).toNat)
  case atStart=>exact⟨0,eX _,rfl⟩
  case round=>
   obtain⟨c,S,rfl⟩:=hrel;by_cases B:c<a.length
   ·obtain⟨w,T,rfl,hb,G⟩:=RN.out.int B;go_wp2_with fail
    refine(gX j _ _ n).mono ?_;rintro e v ⟨rfl,rfl⟩;rw[y];go_wp2;go_loop [8] (λf=>f=eE 0) (λ_=>0)
    case atStart=>exact rfl
    case round=>
     obtain rfl:=hrel;by_cases ar:0<size
     ·go_wp2_with fail
      refine(gX j _ _ n).mono ?_;rintro e v ⟨rfl,rfl⟩;rw[y];go_wp2;go_round
      case rel=>exact⟨c+1,by omega,by go_num⟩
      case measure=>simp[intOf];omega
     ·go_wp2;go_round
      case rel=>exact⟨c+1,by omega,by go_num⟩
      case measure=>simp[intOf];omega
   ·go_wp2;go_end0
    exact⟨rfl,p,by rw[s];exact H1⟩
 ·have hl:a.length<=9223372036854775807:=by omega
  have H:=eD x;have au:1<=size/\size<=8:=by have:=jB x;omega
  clear x ag;obtain⟨l,rfl⟩:=Dl (by omega:0<=size);go_wp2;go_loopw [18] (λf wr=>∃(c:Nat) (o:eS),c<=a.length/\f=eE c/\wE j u p wr (ma l m (a.take c)) o) (λf _=>a.length- (intOf f).toNat)
  case atStart=>refine⟨0,p,eX _,rfl, ?_⟩;rw[uu,Nx,fW H.out];exact wE.refl O
  case round=>
   obtain⟨c,o,S,rfl,i⟩:=hrel;by_cases B:c<a.length
   ·obtain⟨w,T,rfl,hb,G⟩:=P.int B;have U:=GK a c B;have C:=eD (Kb l m (a.take c) (a.getD c 0));rw[<-U] at C;have V:=Eu l H (a.take c) m;rw[ig,lK S] at V;clear U;generalize ma l m (a.take c)=sk at*;generalize a.getD c 0=d at*;replace G:=i.lS.cell G (Q w T rfl (by simp[ints];omega));obtain⟨z,g⟩:=sk;have n:=i.st.eH.ce 0 (eE z);have k:=eD i;clear i;by_cases t:z=0
    ·subst t;go_wp2_with fail
     refine(gX j _ _ n).mono ?_;rintro e v ⟨rfl,rfl⟩;go_wp2_with fail
     refine(Nw d l H _).mono ?_;rintro e v ⟨rfl,rfl⟩;cases r:iu d l
     ·have s:Hid (ln l (0,g) d=(10,g)):=eD (by simp[ln,r]);clear r;go_wp2_with fail
      refine(uL j 0 _ o 10 _ k.st).mono ?_;rintro e v ⟨rfl,D⟩;have W:iX (0,g) 10=(10,g):=rfl;rw[W] at D;clear W n;have n:=D.st.eH.ce 0 (eE 10);have H2:=eD D;clear D;go_wp2;go_loop [8] (λf=>f=eE 0) (λ_=>0)
      case atStart=>exact rfl
      case round=>
       obtain rfl:=hrel;go_wp2_with fail
       refine(gX j _ _ n).mono ?_;rintro e I ⟨rfl,rfl⟩;go_wp2;go_roundw
       case rel=>exact⟨c+1,o,by omega,by go_num,by rw[C,s];exact k.trans H2⟩
       case measure=>simp[intOf];omega
     ·have s:Hid (ln l (0,g) d=(0,g++fD l d)):=eD (by simp[ln,r]);clear r;go_wp2;go_loopw [8] (λf wi=>∃(b:Nat) (J:eS),b<=l/\f=eE b/\wE j u p wi (0,g++fD b d) J) (λf _=>l- (intOf f).toNat)
      case atStart=>exact⟨0,o,eX _,rfl,by simpa[fD] using k.out⟩
      case round=>
       clear k n;obtain⟨b,J,hj,rfl,i⟩:=hrel;have n:=i.st.eH.ce 0 (eE 0);by_cases av:b<l
       ·obtain⟨Y,Z,rfl⟩:=i.st.mb;have c1:=i.st.eH.ce 1 (.slice Y (g++fD b d).length Z);go_wp2_with fail
        refine(gX j _ _ n).mono ?_;rintro e I ⟨rfl,rfl⟩;go_wp2;have aw:b<=7:=by omega
        have ax:IntKind.i64.wrap (8*(b:Int))=8*(b:Int):=IntWalk.i64_in _ (by omega);have HD:Hid (IntKind.u8.wrap (d/2^(8*(b:Int)).toNat)=((Qr d b).toNat:Int)):=by show _=_;rw[<-Mt,show(8*(b:Int)).toNat=8*b by omega]
        have HT:Hid (g++fD (b+1) d=(g++fD b d)++[Qr d b]):=by show _=_;rw[Au,iK]
        have am:(g++fD b d).length=g.length+b:=by simp[iB]
        have ay:(g++fD b d).length+1<=140737488355328:=by have:g.length<=m.2.length+8*c:=V;omega
        clear am;generalize g++fD b d=K at*;have an:=i.st.eH.lt;have k:=eD i;clear i;go_region_law (refine ou rfl _ _ 61 rfl 0 5 i0 (.int .u8 0) 1 underlying61 ai aj ak al rfl (.slice Y K.length Z) K.length (jl K) rfl (eF.own ((eF.alloc _ _).trans (eF.drew _)) k.st.own) (some (eJ wr 0)) 1 [.int .u8 (IntKind.u8.wrap (d/2^(8*(b:Int)).toNat))] 1 rfl rfl (Rd.one _ _ _) (by simp[Value.oneCell']) (by simp only[maxLen];omega) (by omega) (eX _) ?_;intro v3 I E L o3;obtain⟨A3,c3,rfl⟩:=eR E;have⟨d1,f1⟩:=k.st.field ((eF.alloc _ _).trans (eF.drew _)) L)
        all_goals
         rw[HD] at E;have ad:=eD (k.trans (k.st.app (X:=[Qr d b]) ((eF.alloc _ _).trans (eF.drew _)) _ rfl E L o3));rw[<-HT] at ad;clear k HT HD E L o3 d1 f1 n c1 an;generalize I.setCell _ _=w4 at*;go_wp2;go_roundw
         case rel=>exact⟨b+1,_,by omega,by go_num,ad⟩
         case measure=>simp[intOf];omega
       ·obtain rfl:b=l:=by omega
        have k:=eD i;clear i;go_wp2;go_roundw
        case rel=>exact⟨c+1,J,by omega,by go_num,by rw[C,s];exact k⟩
        case measure=>simp[intOf];omega
    ·have y:(z==0)=false:=by simp[t]
     have s:Hid (ln l (z,g) d=(z,g)):=eD (by simp[ln,t]);clear t;go_wp2_with fail
     refine(gX j _ _ n).mono ?_;rintro e v ⟨rfl,rfl⟩;rw[y];go_wp2;go_loop [8] (λf=>f=eE 0) (λ_=>0)
     case atStart=>exact rfl
     case round=>
      obtain rfl:=hrel;go_wp2_with fail
      refine(gX j _ _ n).mono ?_;rintro e v ⟨rfl,rfl⟩;rw[y];go_wp2;go_roundw
      case rel=>exact⟨c+1,o,by omega,by go_num,by rw[C,s];exact k⟩
      case measure=>simp[intOf];omega
   ·rw[show a.take c=a from mZ (by omega)] at i;have k:=eD i;clear i;go_wp2;go_end0
    exact⟨rfl,o,k⟩
theorem GL(a:WS)(b:gh)(h:a.1≠0):wX a b=a:=by simp[wX,h]
theorem xm(d:Nat)(b:WS)(n:eS)(i:fE)(o:Nat)(a:gh)(f:eI)(h:vu f d b n)(p:Rd f i (jl a))(w:b.1=0->b.2.length+a.length<=140737488355328):
 Calls prog 169 #[fw d,.slice i a o] f λx y=>x=fH (ij #[])/\∃z,wE d f n y (wX b a) z:=by
 obtain⟨A,B,C,D,E⟩:=info_parts uo;obtain⟨j,g⟩:=b;have r:=h.eH.ce 0 (eE j);obtain⟨s,t,rfl⟩:=h.mb;have F:=h.eH.ce 1 (.slice s g.length t);have c:=eD h;have u:=eD p;clear h p;go_in;go_wp2_with fail
 refine(gX d _ _ r).mono ?_;rintro e I ⟨rfl,rfl⟩;by_cases k:j=0
 ·subst k;have J:=w rfl;go_wp2_with (at_builtin;refine mF rfl _ _ 61 rfl 0 5 A (.int .u8 0) 1 underlying61 B C D E rfl (.slice s g.length t) g.length (jl g) rfl c.own i o (jl a) a.length rfl (ju a) u (pj a) ?c3 ?c4 ?c5 ?_)
  case c3=>simp only[maxLen];omega
  case c4=>omega
  case c5=>omega
  intro K L l m v;obtain⟨M,c3,rfl⟩:=eR l;have⟨d1,f1⟩:=c.field (eF.refl _) m;have G:=eD (c.app (X:=a) (eF.refl _) _ rfl l m v);clear c u l m v r F;go_wp2;go_end0
  exact⟨rfl,_,by simpa[wX] using G.out⟩
 ·have H:(j==0)=false:=by simp[k]
  rw[H];go_wp2;go_end0
  exact⟨rfl,_,by rw[GL _ _ k];exact wE.refl c⟩
theorem Kd(f:Nat)(a:WS)(v:eS)(c:eI)(h:vu c f a v)(F:a.2.length<=140737488355328):
 Calls prog 100 #[fw f] c λs i=>∃j,s=fH (ij #[j,eE a.1])/\eF c i/\
  i.ownsRow c 5 1 j (if a.1=0 then a.2.length else 0) (jl (if a.1=0 then a.2 else[])):=by
 obtain⟨t,u,w,x,y⟩:=info_parts uo;obtain⟨d,b⟩:=a;have k:=h.eH.ce 0 (eE d);obtain⟨l,m,rfl⟩:=h.mb;have z:=h.eH.ce 1 (.slice l b.length m);have n:=eD h;clear h;go_in;go_wp2_with fail
 refine(gX f _ _ k).mono ?_;rintro e G ⟨rfl,rfl⟩;by_cases o:d=0
 ·subst o;go_wp2_with (at_builtin;refine mF rfl _ _ 61 rfl c 5 t (.int .u8 0) 1 underlying61 u w x y rfl (eW) 0 [] rfl (ji _ _ _ _) l m (jl b) b.length rfl (ju b) (Rd.fC n.own) (pj b) ?c3 ?c4 ?c5 ?_)
  case c3=>simp only[maxLen];omega
  case c4=>omega
  case c5=>omega
  intro H I g p A;obtain⟨B,c3,rfl⟩:=eR g;have r:=eF.of ((ru _ _).grown p (fJ _) (by simp[Value.ownBlock]));have C:=eD g;have D:=eD r;clear g p A k z r n;go_wp2;exact iA (v:=ij #[.slice B b.length c3,eE 0]) (by simp[results,results100,go_sem]) rfl ⟨_,rfl,D,C.out⟩
 ·have E:(d==0)=false:=by simp[o]
  rw[E];go_wp2;go_region
  go_wp2;exact iA (v:=ij #[eW,eE d]) (by simp[results,results100,go_sem]) rfl ⟨_,rfl,eF.drew _,ji _ _ _ _⟩
theorem Cu:iS 4=true:=rfl
theorem yK:iS 2=true:=rfl
theorem Ke(b:WS)(a:gh)(g:a.length<=140737488355328):tE b a=wX (ma 4 (if a.length<=1048576 then b else iX b 2) [(a.length:Int)]) a:=by
 obtain⟨d,i⟩:=b;by_cases c:d=0
 ·subst c;by_cases h:a.length<=1048576
  ·have f:iu (a.length:Int) 4=true:=by simp[iu];omega
   simp[tE,wX,ma,ln,Cu,h,f,iK]
  ·simp[tE,wX,ma,ln,Cu,h,iX]
 ·by_cases h:a.length<=1048576<;>simp[tE,wX,ma,ln,Cu,iX,c,h]
theorem Kf(b:WS)(a:gh):nM b a=wX (ma 2 (if a.length<=4096 then b else iX b 2) [((a.length%4097:Nat):Int)]) a:=by
 obtain⟨d,i⟩:=b;by_cases c:d=0
 ·subst c;by_cases h:a.length<=4096
  ·have f:a.length%4097=a.length:=ww (by omega);have g:iu (a.length:Int) 2=true:=by simp[iu];omega
   simp only[f];simp[nM,wX,ma,ln,yK,h,g,iK]
  ·simp[nM,wX,ma,ln,yK,h,iX]
 ·by_cases h:a.length<=4096<;>simp[nM,wX,ma,ln,yK,iX,c,h]
theorem Be(a:WS)(e:Int):(iX a e).2.length=a.2.length:=by unfold iX;split<;>rfl
theorem GM(a:WS)(e:Int)(b:fS){size:Int}(d:e≠0):(ma size (iX a e) b).1≠0:=by
 have c:(iX a e).1≠0:=by by_cases h:a.1=0<;>simp[iX,h,d]
 rw[GJ size b _ c];exact c
theorem vO(size:Int)(c:iS size=true)(a:WS)(b:Int):(ma size a [b]).2.length<=a.2.length+8:=by have:=Eu size c [b] a;simpa using this
theorem xn(c:Nat)(d:WS)(f:eS)(size b:Int)(a:eI)(h:vu a c d f)(l: -9223372036854775808<=b/\b<=9223372036854775807)(m: -9223372036854775808<=size/\size<=9223372036854775807)(n:d.2.length+8<=140737488355328):
 Calls prog 97 #[fw c,eE size,fN a 1 1] (a.alloc (eN #[eE b] 3)) λi j=>i=fH (ij #[])/\∃g,wE c a f j (ma size d [b]) g:=by
 have k:=eF.alloc a (.cells #[eE b] 3);refine(Ct c d f size (some (eJ a 0)) 1 [b] _ (h.ext k) ?_ ?_ ?_ m (by simpa using n)).mono ?_
 ·intro o p;have:o=0:=by simpa[ints] using p
  subst this;exact⟨a,0,rfl,Df a #[eE b] _ 0 rfl⟩
 ·intro x r;rw[fF.1 r];exact l
 ·intro s y t _ u;simp only[fd,ny] at t;have:=h.lt s u;omega
 ·rintro i j ⟨v,g,w⟩;exact⟨v,g,((wE.refl h).ext k).trans w⟩
theorem Kg(c:Nat)(b:WS)(d:eS)(g:fE)(k:Nat)(a:gh)(i:eI)(h:vu i c b d)(s:Rd i g (jl a))(t:∀u E,g=some (eJ u E)->0<(jl a).length->¬ftp c d u)(L:b.2.length+8+a.length<=140737488355328):
 Calls prog 98 #[fw c,.slice g a k] i λF G=>F=fH (ij #[])/\∃H,wE c i d G (tE b a) H:=by
 have j:=eD (Ke b a (by omega));have v: -9223372036854775808<=(a.length:Int)/\(a.length:Int)<=9223372036854775807:=by omega
 have w:=eD v;have x:=eD (vO 4 Cu);have I:=eD (Be b 2);have y:=eD h;have z:=eD s;have A:=eD t;clear h s t v;go_in;by_cases B:a.length<=1048576
 ·rw[fW B] at j;go_wp2_with fail
  refine(xn c b d 4 _ _ y w (by omega) (by omega)).mono ?_;rintro e l ⟨rfl,m,f⟩;have J:=x b a.length;generalize ma 4 b [(a.length:Int)]=n at*;go_wp2_with fail
  refine(xm c n m g k a l f.st (f.lS.VC z A) (λ_=>by omega)).mono ?_;rintro e K ⟨rfl,o,p⟩;go_wp2;go_end0
  exact⟨rfl,o,by rw[j];exact f.trans p⟩
 ·rw[fG B] at j;go_wp2_with fail
  refine(uL c 0 b d 2 _ y).mono ?_;rintro e M ⟨rfl,C⟩;have N:=I.out;generalize iX b 2=r at*;go_wp2_with fail
  refine(xn c r d 4 _ _ C.st w (by omega) (by omega)).mono ?_;rintro e l ⟨rfl,m,f⟩;have J:=x r a.length;generalize ma 4 r [(a.length:Int)]=n at*;have D:=C.trans f;go_wp2_with fail
  refine(xm c n m g k a l f.st (D.lS.VC z A) (λ_=>by omega)).mono ?_;rintro e K ⟨rfl,o,p⟩;go_wp2;go_end0
  exact⟨rfl,o,by rw[j];exact D.trans p⟩
theorem Rd.str{d:List jw}(h:Rd w A (strs d)){b:Nat}(f:b<d.length):
 ∃a c,A=some (eJ a c)/\a<w.heap.size/\w.cell? (eJ a (c+b))=some (eV (d.getD b default)):=by obtain⟨a,c,i,g⟩:=h b (by simpa[strs] using f);refine⟨a,c,i,js g, ?_⟩;rw[g,jx,gg f];simp[strs]
theorem GN(a:WS)(b:gh):(nM a b).2.length<=a.2.length+4098:=by
 unfold nM;split
 ·split
  ·simp only[fT,iB];omega
  ·simp
 ·simp
theorem Kh(b:List gh)(a:Nat)(c:WS):(oQ c (b.take a)).2.length<=c.2.length+4098*a:=by
 induction a with
 |zero=>simp[oQ]
 |succ a d=>
  rcases m0 a b.length with h|h
  ·rw[iz h];unfold oQ at*;rw[Dk];have:=GN ((b.take a).foldl nM c) b[a];simp only[nK,Q0];exact eY this (by rw[Io,<-qX];exact Nat.add_le_add_right d _)
  ·rw[mZ (by omega)];rw[mZ h] at d;omega
theorem GO(c:WS)(a:List jw){b:Nat}(h:b<a.length):oQ c ((a.map gC).take (b+1))=nM (oQ c ((a.map gC).take b)) (gC (a.getD b default)):=by rw[iz (by simpa using h)];unfold oQ;rw[Dk,nK,Q0,jy,jx,gg h];rfl
theorem Ny(f:Nat)(l:WS)(o:eS)(A:fE)(T:Nat)(a:List jw)(p:eI)(h:vu p f l o)(N:Rd p A (strs a))(O:∀x U,A=some (eJ x U)->0<(strs a).length->¬ftp f o x)(hl:a.length<=9223372036854775807)(P:∀c,c<a.length->(oQ l ((a.map gC).take c)).2.length+8+min (a.getD c default).size 4096<=140737488355328)(Q:∀b∈a,b.size<=140737488351232):
 Calls prog 96 #[fw f,.slice A a T] p λV W=>V=fH (ij #[])/\∃g,wE f p o W (oQ l (a.map gC)) g:=by
 have X:=eD h;have Y:=eD N;have Z:=eD O;have ad:=eD Q;have ae:=eD P;clear h N O Q P;go_in;go_wp2;go_loopw [8] (λB wr=>∃(c:Nat) (g:eS),c<=a.length/\B=eE c/\wE f p o wr (oQ l ((a.map gC).take c)) g) (λB _=>a.length- (intOf B).toNat)
 case atStart=>refine⟨0,o,eX _,rfl, ?_⟩;rw[uu];exact wE.refl X
 case round=>
  obtain⟨c,g,hk,rfl,m⟩:=hrel;by_cases y:c<a.length
  ·obtain⟨x,af,rfl,hb,z⟩:=Y.str y;have ak:=ad _ (Kc (d:=default) y);have n:=eD (GO l a y);have al:=ae c y;generalize oQ l ((a.map gC).take c)=j at*;generalize a.getD c default=b at*;rw[Kf] at n;replace z:=m.lS.cell z (Z x af rfl (by simp[strs];omega));have C:(gC b).length=b.size:=by simp[gC]
   rw[C,show((b.size%4097:Nat):Int)=(b.size:Int)%4097 by omega] at n;have D:=eD C;have i:=eD m;clear m C;have am:=pS b.size (show 0<4097 by omega);by_cases R:b.size<=4096
   ·rw[fW R] at n;go_wp2_with fail
    refine(xn f j g 2 _ _ i.st (by omega) (by omega) (by omega)).mono ?_;rintro e E ⟨rfl,F,r⟩;have ag:=vO 2 yK j ((b.size:Int)%4097);generalize ma 2 j [(b.size:Int)%4097]=G at*;have s:=eD (i.trans r);clear r i z;obtain⟨H,I,ah,t,ai,u⟩:=rF E b;have k:=eD (s.ext t);have v:=eD u;clear t u s;go_wp2_with fail
    rw[<-D];refine(xm f G F _ H (gC b) I k.st v (λ_=>by rw[D];omega)).mono ?_;rintro e w4 ⟨rfl,J,w⟩;have K:=eD (k.trans w);clear w k v;go_wp2;go_roundw
    case rel=>exact⟨c+1,J,by omega,by go_num,by rw[n];exact K⟩
    case measure=>simp[intOf];omega
   ·rw[fG R] at n;go_wp2_with fail
    refine(uL f 0 j g 2 _ i.st).mono ?_;rintro e w1 ⟨rfl,S⟩;have an:=Be j 2;have aj:Hid ((ma 2 (iX j 2) [(b.size:Int)%4097]).1≠0):=eD (GM _ _ _ (by decide));generalize iX j 2=L at*;have M:=eD (i.trans S);clear S i z;go_wp2_with fail
    refine(xn f L g 2 _ _ M.st (by omega) (by omega) (by omega)).mono ?_;rintro e E ⟨rfl,F,r⟩;have ag:=vO 2 yK L ((b.size:Int)%4097);generalize ma 2 L [(b.size:Int)%4097]=G at*;have s:=eD (M.trans r);clear r M;obtain⟨H,I,ah,t,ai,u⟩:=rF E b;have k:=eD (s.ext t);have v:=eD u;clear t u s;go_wp2_with fail
    rw[<-D];refine(xm f G F _ H (gC b) I k.st v (λh0=>absurd h0 aj)).mono ?_;rintro e w4 ⟨rfl,J,w⟩;have K:=eD (k.trans w);clear w k v;go_wp2;go_roundw
    case rel=>exact⟨c+1,J,by omega,by go_num,by rw[n];exact K⟩
    case measure=>simp[intOf];omega
  ·rw[show(a.map gC).take c=a.map gC from mZ (by simp;omega)] at m;have i:=eD m;clear m;go_wp2;go_end0
   exact⟨rfl,g,i⟩
theorem Ev(b:Nat)(c:WS)(f:eS)(g:fE)(i:Nat)(a:List jw)(d:eI)(h:vu d b c f)(k:Rd d g (strs a))(l:∀j m,g=some (eJ j m)->0<(strs a).length->¬ftp b f j)(u:c.2.length+4200*a.length<=140737488355328)(n:∀o∈a,o.size<=140737488351232):
 Calls prog 96 #[fw b,.slice g a i] d λp r=>p=fH (ij #[])/\∃s,wE b d f r (oQ c (a.map gC)) s:=
 Ny b c f g i a d h k l (by omega) (λt v=>by have:=Kh (a.map gC) t c;omega) n
structure wO(w:eI)(p:Nat)(st:WS)(A:fE)(cap:Nat):Prop where
 eH:eQ w p 542 #[eE st.1,.slice A st.2 cap]
 rd:Rd w A (jl st.2)
 mb:(A=none/\st.2=[]/\cap=0)\/∃b o,A=some (eJ b o)/\b≠p/\b<w.heap.size/\st.2.length<=cap/\cap<=maxLen
theorem wO.ne{p:Nat}{st:WS}{A:fE}(h:wO w p st A n){k:Nat}(a:As A k):k≠p/\k<w.heap.size:=by
 rcases h.mb with⟨rfl,_⟩|⟨d,f,rfl,b,c,_⟩
 ·exact absurd a um
 ·rw[xW a];exact⟨b,c⟩
theorem wO.keep{S:Nat->Prop}{w:eI}{p:Nat}{d:WS}{A:fE}(h:wO w p d A n)(a:fi S w v)(f:¬S p)(g:∀k,As A k->¬S k):wO v p d A n:=by
 refine⟨a.eH h.eH f,a.rd h.rd (λb c e=>g b ⟨c,e⟩), ?_⟩;rcases h.mb with i|⟨b,c,e,j,l,m⟩
 ·exact .inl i
 ·exact .inr ⟨b,c,e,j,nX l a.size,m⟩
theorem wO.ext{w w':eI}{p:Nat}{st:WS}{A:fE}{cap:Nat}(h:wO w p st A cap)(a:eF w w'):wO w' p st A cap:=
 h.keep (fi.fg (S:=λ_=>False) a) id (λ_ _=>id)
structure xo(p:Nat)(w:eI)(A:fE)(w':eI)(st':WS)(A':fE)(cap':Nat):Prop where
 st:wO w' p st' A' cap'
 m9:∀k,As A' k->As A k
 lS:fi (λk=>k=p) w w'
theorem xo.refl{p:Nat}{w:eI}{st:WS}{A:fE}{cap:Nat}(h:wO w p st A cap):xo p w A w st A cap:=⟨h,λ_ h=>h,fi.refl _ _⟩
theorem xo.trans{p:Nat}{a b c:eI}{A:fE}{s1 g:WS}{c1 c2:Nat}(h:xo p a A b s1 C c1)(k:xo p b C c g H c2):xo p a A c g H c2:=
 ⟨k.st,λd f=>h.m9 d (k.m9 d f),h.lS.trans k.lS (λd f=>.inl f)⟩
theorem xo.ext{p:Nat}{a b c:eI}{A:fE}{s1:WS}{c1:Nat}(h:xo p a A b s1 C c1)(d:eF b c):xo p a A c s1 C c1:=
 h.trans ⟨h.st.ext d,λ_ h=>h,fi.fg d⟩
theorem wO.UC{c:WS}(h:wO w n c A k)(e:Int):xo n w A (w.setCell (eJ n 0) (eE e)) (e,c.2) A k:=by
 refine⟨⟨h.eH.set 0 _,(fi.set w n 0 _).rd h.rd (λd a b=> ?_), ?_⟩,λ_ h=>h,fi.set w n 0 _⟩
 ·exact(h.ne ⟨a,b⟩).1
 ·rcases h.mb with f|⟨d,a,e,b,g,i⟩
  ·exact .inl f
  ·exact .inr ⟨d,a,e,b,by simpa using g,i⟩
theorem wO.rest{w:eI}{p:Nat}{A:fE}{cap:Nat}(h:wO w p (D,kR) A cap){bs':gh}{A':fE}{cap':Nat}{n':Nat}(g:n'=bs'.length)(i:Rd w A' (jl bs'))(d:∀k,As A' k->As A k)(j:(A'=none/\bs'=[]/\cap'=0)\/∃b a,A'=some (eJ b a)/\bs'.length<=cap'/\cap'<=maxLen):xo p w A (w.setCell (eJ p 1) (.slice A' n' cap')) (D,bs') A' cap':=by
 subst g;have f:∀k,As A' k->k≠p/\k<w.heap.size:=λk l=>h.ne (d k l);refine⟨⟨h.eH.set 1 _,(fi.set w p 1 _).rd i (λb a c=>(f b ⟨a,c⟩).1), ?_⟩,d,fi.set w p 1 _⟩;rcases j with m|⟨b,a,rfl,c⟩
 ·exact .inl m
 ·have:=f b ⟨a,rfl⟩;exact .inr ⟨b,a,rfl,this.1,by simpa using this.2,c⟩
theorem vP(d:Nat)(f:WS)(g:fE)(j:Nat)(e:Int)(i:eI)(h:wO i d f g j):
 Calls prog 168 #[fw d,eE e] i λn o=>n=fH (ij #[])/\xo d i g o (iX f e) g j:=by
 obtain⟨a,k⟩:=f;have b:=h.eH;simp only at b;have r:=b.ce 0 (eE a);have f0:=b.frozen 0;have l:=eD h;clear h b;by_cases c:a=0
 ·subst c;go_in;go_wp2;go_end0
  exact⟨rfl,l.UC e⟩
 ·have s:(a==0)=false:=by simp[c]
  have m:iX (a,k) e=(a,k):=by simp[iX,c]
  have p:=eD m;clear c m;go_in;go_wp2;go_end0
  exact⟨rfl,by rw[p];exact xo.refl l⟩
theorem Rd.drop{b n:Nat}(h:Rd w (some (eJ b k)) l):Rd w (some (eJ b (k+n))) (l.drop n):=by intro a d;obtain⟨g,i,c,f⟩:=h (n+a) (by simp at d;omega);simp only[fd,ny,gP] at c;obtain⟨rfl,rfl⟩:=c;exact⟨b,k+n,rfl,by rw[show k+n+a=k+(n+a) by omega,f];simp⟩
theorem Ki(a:gh)(b:Nat):jl (a.take b)=(jl a).take b:=by simp[jl,List.map_take]
theorem Kj(a:gh)(b:Nat):jl (a.drop b)=(jl a).drop b:=by simp[jl,List.map_drop]
def V8(p:Nat)(w:eI)(A:fE)(bs:gh)(st':WS)(r:Ending)(w':eI):Prop:=
 ∃B bcap A' cap',r=fH (.slice B bs bcap)/\xo p w A w' st' A' cap'/\Rd w' B (jl bs)/\(∀k,As B k->As A k)/\(B=none\/∃b o,B=some (eJ b o))/\bs.length<=bcap/\bcap<=maxLen
theorem Cv(g:Nat)(u:WS)(o:fE)(k:Nat)(a:Nat)(p:eI)(h:wO p g u o k)(R:a<=9223372036854775807):
 Calls prog 378 #[fw g,eE a] p λI J=>V8 g p o (lQ u a).1 (lQ u a).2 I J:=by
 obtain⟨r,b⟩:=u;have l:=h.eH.ce 0 (eE r);have K:=h.eH.ce 1 (.slice o b.length k);have f1:=h.eH.frozen 1;by_cases v:r=0
 ·subst v;by_cases x:a<=b.length
  ·have f:Hid (lQ (0,b) a=(b.take a,(0,b.drop a))):=eD (by simp[lQ,x]);have i:=eD h;rcases h.mb with⟨rfl,m,rfl⟩|⟨d,c,rfl,S,T,L,M⟩
   ·simp only at m;subst m;obtain rfl:a=0:=by simpa using x
    clear h;go_in;go_wp2_with fail
    refine(gX g _ _ l).mono ?_;rintro e n ⟨rfl,rfl⟩;go_wp2_with fail
    refine(gX g _ _ l).mono ?_;rintro e n ⟨rfl,rfl⟩;go_wp2;go_ret;rw[f];exact⟨none,0,none,0,rfl,i.rest rfl (Rd.nil _ _) (λ_ h=>h) (.inl ⟨rfl,rfl,rfl⟩),Rd.nil _ _,λs j=>j,.inl rfl,eX _,by simp⟩
   ·simp only at L;unfold maxLen at M;clear h;go_in;go_wp2_with fail
    refine(gX g _ _ l).mono ?_;rintro e n ⟨rfl,rfl⟩;go_wp2_with fail
    refine(gX g _ _ l).mono ?_;rintro e n ⟨rfl,rfl⟩;have B:Rd p (some ⟨d,c,none⟩) (jl (b.take a)):=by rw[Ki];exact i.rd.take a
    have C:Rd p (some ⟨d,c+a,none⟩) (jl (b.drop a)):=by rw[Kj];exact i.rd.drop
    have D:=eD B;have N:=eD C;have E:k<=maxLen:=by unfold maxLen;omega
    have y:=eD E;have F:(b.take a).length=a:=by rw[ig];omega
    have w:=eD F;clear B C E F;go_wp2
    ·go_ret;have O:b.drop a=[]:=Um (by omega);have t:=i.rest (bs':=[]) (A':=some (eJ d c)) (cap':=0) (n':=b.length- a) (by simp;omega) (Rd.nil _ _) (λ_ h=>h) (.inr ⟨d,c,rfl,by simp,by simp⟩);refine⟨some (eJ d c),a,some (eJ d c),0, ?_, ?_, ?_,λs j=>j,.inr ⟨d,c,rfl⟩, ?_, ?_⟩
     ·exact kj (by show Value.slice (some (eJ d c)) a a=_;rw[f,w])
     ·rw[f,O];exact t
     ·rw[f];exact t.lS.rd D (λP z A=>(i.ne ⟨z,A⟩).1)
     ·rw[f,w];exact fJ _
     ·have:=y.out;omega
    ·go_ret;have t:=i.rest (bs':=b.drop a) (A':=some (eJ d (c+a))) (cap':=k- a) (n':=b.length- a) (by simp) N.out (λs j=>⟨c,by rw[xW j]⟩) (.inr ⟨d,c+a,rfl,by simp;omega,by have:=y.out;omega⟩);refine⟨some (eJ d c),k,some (eJ d (c+a)),k- a, ?_, ?_, ?_,λs j=>j,.inr ⟨d,c,rfl⟩, ?_, ?_⟩
     ·exact kj (by show Value.slice (some (eJ d c)) a k=_;rw[f,w])
     ·rw[f];exact t
     ·rw[f];exact t.lS.rd D (λP z A=>(i.ne ⟨z,A⟩).1)
     ·rw[f,w];omega
     ·exact y
  ·have i:=eD h;have f:Hid (lQ (0,b) a=([],(11,b))):=eD (by simp[lQ,x]);clear h;go_in;go_wp2_with fail
   refine(gX g _ _ l).mono ?_;rintro e n ⟨rfl,rfl⟩;go_wp2_with fail
   refine(vP g _ o k 11 _ i).mono ?_;rintro e n ⟨rfl,m⟩;have G:iX (0,b) 11=(11,b):=rfl;rw[G] at m;replace l:=m.st.eH.ce 0 (eE 11);have Q:=eD m;clear i m G K f1;go_wp2_with fail
   refine(gX g _ _ l).mono ?_;rintro e U ⟨rfl,rfl⟩;go_wp2;go_ret;rw[f];exact⟨none,0,o,k,rfl,Q,Rd.nil _ _,λs j=>absurd j um,.inl rfl,fJ _,by simp⟩
 ·have H:(r==0)=false:=by simp[v]
  have i:=eD h;have f:Hid (lQ (r,b) a=([],(r,b))):=eD (by simp[lQ,v]);clear h v;go_in;go_wp2_with fail
  refine(gX g _ _ l).mono ?_;rintro e n ⟨rfl,rfl⟩;rw[H];go_wp2_with fail
  refine(gX g _ _ l).mono ?_;rintro e n ⟨rfl,rfl⟩;rw[H];go_wp2;go_ret;rw[f];exact⟨none,0,o,k,rfl,xo.refl i,Rd.nil _ _,λs j=>absurd j um,.inl rfl,fJ _,by simp⟩
theorem Q5(c:Nat)(g:WS)(l:fE)(m:Nat)(i:eI)(h:wO i c g l m):
 Calls prog 359 #[fw c] i λo p=>o=fH (eE (MW g))/\i=p:=by
 obtain⟨a,d⟩:=g;have j:=h.eH.ce 0 (eE a);have r:=h.eH.ce 1 (.slice l d m);clear h;by_cases f:a=0
 ·subst f;by_cases b:d=[]
  ·subst b;go_in;go_wp
   refine(gX c _ _ j).mono ?_;rintro e n ⟨rfl,rfl⟩;go_wp2;go_ret;exact⟨rfl,rfl⟩
  ·have s:=pi.2 b;have k:Hid (MW (0,d)=12):=eD (by simp[MW,b]);clear b;go_in;go_wp
   refine(gX c _ _ j).mono ?_;rintro e n ⟨rfl,rfl⟩;go_wp2;go_ret;exact⟨kj (by show Value.int .i64 12=_;rw[k]),rfl⟩
 ·have b:(a==0)=false:=by simp[f]
  have k:Hid (MW (a,d)=a):=eD (by simp[MW,f]);clear f;go_in;go_wp
  refine(gX c _ _ j).mono ?_;rintro e n ⟨rfl,rfl⟩;rw[b];go_wp2;go_ret;exact⟨kj (by show Value.int .i64 a=_;rw[k]),rfl⟩
def VI(w:eI)(bs:gh)(r:Ending)(w':eI):Prop:=
 ∃p A cap,r=fH (fw p)/\w.heap.size<=p/\wO w' p (0,bs) A cap/\(∀k,As A k->w.heap.size<=k)/\eF w w'
theorem Q6{c3:Nat}(h:v.ownsRow w 5 1 (.slice A kR c3) kR (jl kR)):
 wO (v.alloc (eN #[eE 0,.slice A kR c3] 542)) v (0,kR) A c3:=by
 refine⟨eQ.new _ _ _,oP.rd (Rd.fC h), ?_⟩;rcases h.2 with⟨a,b⟩|⟨c,i,j,a,k,d,f,g,_⟩
 ·simp only[ml] at a;exact .inl ⟨a.1,Ds.1 b,a.2.2⟩
 ·simp only[ml] at a;have l:=(LV.1 d).1;exact .inr ⟨c,0,a.1,by omega,by simp;omega,by rw[a.2.2];exact f,by rw[a.2.2];exact g⟩
theorem yL(b:WS)(a:Nat):(lQ b a).1.length<=a:=by
 unfold lQ;split
 ·split
  ·simp;omega
  ·simp
 ·simp
theorem zV(c:fE)(f:Nat)(a:gh)(b:eI)(g:Rd b c (jl a))(z:a.length<=140737488355328):
 Calls prog 352 #[.slice c a f] b λn o=>VI b a n o:=by
 obtain⟨p,r,s,t,u⟩:=info_parts uo;have i:=eD g;clear g;go_in;go_wp2_with (at_builtin;refine mF rfl _ _ 61 rfl b 5 p (.int .u8 0) 1 underlying61 r s t u rfl (eW) 0 [] rfl (ji _ _ _ _) c f (jl a) a rfl (ju a) i (pj a) ?c3 ?c4 ?c5 ?_)
 case c3=>simp only[maxLen];omega
 case c4=>omega
 case c5=>omega
 intro A v d j w;obtain⟨x,c3,rfl⟩:=eR d;have k:=eF.of ((ru _ _).grown j (fJ _) (by simp[Value.ownBlock]));have l:=eD d;have m:=eD k;clear d j w k i;go_wp2;go_ret;exact⟨v,x,c3,rfl,m.size,Q6 l.out,λB y=>(Qq l.out y).1,m.trans oP⟩
theorem Rd.u8(h:Rd w A (jl kR)){i:Nat}(c:i<kR.length):
 ∃a b,A=some (eJ a b)/\w.cell? (eJ a (b+i))=some (.int .u8 (((kR.getD i 0).toNat:Nat):Int)):=by obtain⟨a,b,d,f⟩:=h i (by simpa[jl] using c);refine⟨a,b,d, ?_⟩;rw[f,jx,gg c];simp[jl]
theorem Nz(b c a:Nat)(d:a<=7)(f:b<2^(8*a))(g:c<256):bits BinOp.or .i64 (i64 b) (wrap64 ((c:Int)*2^(8*a)))=i64 (b+c*2^(8*a)):=by rw[Ap];exact QQ b c a d f g
theorem GQ(b:gh){a:Nat}(h:a<b.length):mN (b.take (a+1))=mN (b.take a)+(b.getD a 0).toNat*2^(8*a):=by rw[iz h,tI,ig,lK (by omega),jx,gg h];rfl
theorem Ew(d:Nat)(c:WS)(f:fE)(k:Nat)(size:Int)(l:eI)(h:wO l d c f k)(w: -9223372036854775808<=size/\size<=9223372036854775807):
 Calls prog 354 #[fw d,eE size] l λx y=>x=fH (eE (lU size c).1)/\∃o p,xo d l f y (lU size c).2 o p:=by
 have m:=eD h;clear h;go_in;go_wp
 refine(Bd _ _).mono ?_;rintro e G ⟨rfl,rfl⟩;cases g:iS size
 ·have n:Hid (lU size c=(0,iX c 1)):=eD (by simp[lU,g]);clear g;go_wp21
  refine(vP d c f k 1 _ m).mono ?_;rintro e z ⟨rfl,i⟩;have r:=eD i;clear m i;go_wp2;go_ret;rw[n];exact⟨rfl,f,k,r⟩
 ·have n:Hid (lU size c=(i64 (mN (lQ c size.toNat).1),(lQ c size.toNat).2)):=eD (by simp[lU,g]);have H:1<=size/\size<=8:=by have:=jB g;omega
  clear g w;obtain⟨j,rfl⟩:=Dl (by omega:0<=size);rw[uv] at n;go_wp21
  refine(Cv d c f k j l m (by omega)).mono ?_;rintro e z ⟨I,J,o,p,rfl,i,t,A,K,L,M⟩;have N:(lQ c j).1.length<=8:=eY (yL c j) (by omega);generalize(lQ c j).1=b at*;generalize(lQ c j).2=O at*;have r:=eD i;have B:=eD t;clear m i t A;go_wp2;go_loop [5,19] (λu s=>∃a:Nat,a<=b.length/\s=eE a/\u=eE (i64 (mN (b.take a)))) (λu s=>b.length- (intOf s).toNat)
  case atStart=>exact⟨0,eX _,rfl,rfl⟩
  case round=>
   obtain⟨a,C,rfl,rfl⟩:=hrel;by_cases v:a<b.length
   ·obtain⟨P,Q,rfl,R⟩:=B.u8 v;have D:a<=7:=by omega
    have S:IntKind.i64.wrap (8*(a:Int))=8*(a:Int):=IntWalk.i64_in _ (by omega);have E:=eD (Nz (mN (b.take a)) (b.getD a 0).toNat a D (by have:=yq (b.take a);rwa [ig,lK C] at this) (b.getD a 0).toNat_lt);have F:=eD (GQ b v);have T:(b.getD a 0).toNat<256:=(b.getD a 0).toNat_lt;generalize(b.getD a 0).toNat=U at*;generalize mN (b.take a)=V at*;go_wp2;go_round
    case rel=>exact⟨a+1,by omega,by go_num,by rw[E,F]⟩
    case measure=>simp[intOf];omega
   ·rw[show b.take a=b from mZ (by omega)];go_wp2;go_ret;rw[n];exact⟨rfl,o,p,r⟩
theorem xo.Q7{d g:WS}(h:wO w n d A k)(a:xo n w A v g C m):
 xo n w A (v.setCell (eJ n 1) (.slice A d.2 k)) (g.1,d.2) A k:=by
 have b:=a.st.eH;have f:=a.lS.rd h.rd (λb c e=>(h.ne ⟨c,e⟩).1);refine⟨⟨b.set 1 _,(fi.set v n 1 _).rd f (λb c e=>(h.ne ⟨c,e⟩).1), ?_⟩,λ_ h=>h,a.lS.trans (fi.set v n 1 _) (λl i=>.inl i)⟩;rcases h.mb with a|⟨b,c,e,j,o,f⟩
 ·exact .inl a
 ·exact .inr ⟨b,c,e,j,by have:=a.lS.size;simp;omega,f⟩
theorem yM(a:Int)(b:WS)(c:a=2\/a=4):0<=(lU a b).1/\(lU a b).1<4294967296:=by
 have d:iS a=true:=by rcases c with rfl|rfl<;>rfl
 unfold lU;rw[d];simp only[nV];have f:=yq (lQ b a.toNat).1;have g:=yL b a.toNat;have i:2^(8*(lQ b a.toNat).1.length)<=2^32:=wG (by omega) (by rcases c with rfl|rfl<;>omega);have j:mN (lQ b a.toNat).1<4294967296:=by omega
 unfold i64;rw[IntWalk.i64_in _ (by omega)];omega
theorem Ex(d:Nat)(a:WS)(l:fE)(r:Nat)(b j:Nat)(F:eI)(h:wO F d a l r)(hz:b=2\/b=4)(hm:j<=1048576):
 Calls prog 377 #[fw d,eE b,eE j] F λU V=>V8 d F l (od b j a).1 (od b j a).2 U V:=by
 have I:=h.eH.ce 1 (.slice l a.2.length r);have s:=eD h;have W:=yM b a (by omega);have f:Hid (od b j a=((lQ (if(lU b a).1<=j then(lU b a).2 else iX (lU b a).2 2) (lU b a).1.toNat).1,if(lQ (if(lU b a).1<=j then(lU b a).2 else iX (lU b a).2 2) (lU b a).1.toNat).2.1=0 then(lQ (if(lU b a).1<=j then(lU b a).2 else iX (lU b a).2 2) (lU b a).1.toNat).2 else((lQ (if(lU b a).1<=j then(lU b a).2 else iX (lU b a).2 2) (lU b a).1.toNat).2.1,a.2))):=eD rfl;clear h;go_in;go_wp2_with fail
 refine(Ew d a l r b F s (by omega)).mono ?_;rintro e X ⟨rfl,J,K,G⟩;generalize(lU b a).2=t at*;generalize(lU b a).1=m at*;obtain⟨m,rfl⟩:=Dl W.1;rw[uv] at f;clear I;by_cases hx:m<=j
 ·rw[fW (by omega)] at f;have n:=eD G;clear G;go_wp2_with fail
  refine(Cv d t J K m X n.st (by omega)).mono ?_;rintro e L ⟨o,u,v,w,rfl,g,x,y,z,A,B⟩;generalize(lQ t m).2=k at*;generalize(lQ t m).1=Y at*;have M:=g.st.eH.ce 0 (eE k.1);have f1:=g.st.eH.frozen 1;have I:=g.st.eH.ce 1 (.slice v k.2.length w);have C:=eD (n.trans g);have D:=eD x;have p:Hid (∀i,As o i->As l i):=eD (λi N=>n.m9 i (y i N));have E:=eD z;clear g x y z n;go_wp2_with fail
  refine(gX d _ _ M).mono ?_;rintro e Z ⟨rfl,rfl⟩;by_cases c:k.1=0
  ·rw[fW c] at f;rw[c];clear c;go_wp2;go_ret;rw[f];exact⟨o,u,v,w,rfl,C,D,p,E,A,B⟩
  ·rw[fG c] at f;have O:(k.1==0)=false:=by simp[c]
   rw[O];clear c;go_wp2;go_ret;rw[f];have P:=xo.Q7 s C;exact⟨o,u,l,r,rfl,P,(fi.set L d 1 _).rd D (λQ R e=>(s.ne (p Q ⟨R,e⟩)).1),p,E,A,B⟩
 ·rw[fG (by omega)] at f;have n:=eD G;clear G;go_wp2_with fail
  refine(vP d t J K 2 _ n.st).mono ?_;rintro e ad ⟨rfl,T⟩;generalize iX t 2=S at*;have H:=eD (n.trans T);clear n T;go_wp2_with fail
  refine(Cv d S J K m ad H.st (by omega)).mono ?_;rintro e L ⟨o,u,v,w,rfl,g,x,y,z,A,B⟩;generalize(lQ S m).2=k at*;generalize(lQ S m).1=Y at*;have M:=g.st.eH.ce 0 (eE k.1);have f1:=g.st.eH.frozen 1;have I:=g.st.eH.ce 1 (.slice v k.2.length w);have C:=eD (H.trans g);have D:=eD x;have p:Hid (∀i,As o i->As l i):=eD (λi N=>H.m9 i (y i N));have E:=eD z;clear g x y z H;go_wp2_with fail
  refine(gX d _ _ M).mono ?_;rintro e Z ⟨rfl,rfl⟩;by_cases c:k.1=0
  ·rw[fW c] at f;rw[c];clear c;go_wp2;go_ret;rw[f];exact⟨o,u,v,w,rfl,C,D,p,E,A,B⟩
  ·rw[fG c] at f;have O:(k.1==0)=false:=by simp[c]
   rw[O];clear c;go_wp2;go_ret;rw[f];have P:=xo.Q7 s C;exact⟨o,u,l,r,rfl,P,(fi.set L d 1 _).rd D (λQ R e=>(s.ne (p Q ⟨R,e⟩)).1),p,E,A,B⟩
theorem Kk(b:Nat)(a:WS)(g:fE)(k:Nat)(c:eI)(h:wO c b a g k):
 Calls prog 353 #[fw b] c λo p=>o=fH (eV ⟨(od 2 4096 a).1.toArray⟩)/\∃i j,xo b c g p (od 2 4096 a).2 i j:=by
 have l:=eD h;clear h;obtain⟨⟨r,y⟩,m⟩:∃q,od 2 4096 a=q:=⟨_,rfl⟩;rw[m];go_in;go_wp2_with fail
 refine(Ex b a g k 2 4096 c l (.inl rfl) (by omega)).mono ?_;rintro e s ⟨t,u,i,j,rfl,d,f,v,w,n,z⟩;rw[m] at d f n ⊢;simp only at d f n ⊢;have A:=tG s t u r f;have x:=eD d;clear l d f v w;go_wp2;go_ret;exact⟨rfl,i,j,x⟩
def VJ(p:Nat)(w:eI)(A:fE)(bs:gh)(st':WS)(r:Ending)(w':eI):Prop:=
 ∃v A' cap',r=fH v/\w'.ownsRow w 5 1 v bs (jl bs)/\xo p w A w' st' A' cap'
theorem Kl(a c:Nat)(b:WS)(d:a=2\/a=4):(od a c b).1.length<=4294967296:=by have:=yM a b (by omega);unfold od;refine eY (yL _ _) ?_;omega
theorem GR(d:Nat)(a:WS)(i:fE)(k:Nat)(b:eI)(h:wO b d a i k):
 Calls prog 355 #[fw d] b λs t=>VJ d b i (od 4 1048576 a).1 (od 4 1048576 a).2 s t:=by
 obtain⟨u,v,w,x,y⟩:=info_parts uo;have l:=eD h;have m:=Kl 4 1048576 a (.inr rfl);clear h;obtain⟨⟨f,K⟩,n⟩:∃q,od 4 1048576 a=q:=⟨_,rfl⟩;rw[n] at m ⊢;simp only at m;go_in;go_wp2_with fail
 refine(Ex d a i k 4 1048576 b l (.inr rfl) (by omega)).mono ?_;rintro e L ⟨z,A,B,C,rfl,c,g,D,E,o,M⟩;rw[n] at c g o ⊢;simp only at c g o ⊢;have F:=eD c;have G:=eD g;have N:=c.lS.size;clear l c g D E;go_wp2_with (at_builtin;refine mF rfl _ _ 61 rfl b 5 u (.int .u8 0) 1 underlying61 v w x y rfl (eW) 0 [] rfl (ji _ _ _ _) z A (jl f) f.length rfl (ju f) G (pj f) ?c3 ?c4 ?c5 ?_)
 case c3=>simp only[maxLen];omega
 case c4=>omega
 case c5=>omega
 intro O P j p H;obtain⟨Q,c3,rfl⟩:=eR j;have r:=eF.of ((ru _ _).grown p (fJ _) (by simp[Value.ownBlock]));have I:=eD j;have J:=eD r;clear j p H r;go_wp2;go_ret;exact⟨_,B,C,rfl,I.out,F.ext J⟩
structure WF(w0 w:eI)(p:Nat)(st:WS)(v:eS):Prop where
 st:vu w p st v
 m9:∀k,ftp p v k->w0.heap.size<=k
 ext:eF w0 w
theorem WF.new{w:eI}(a:eF v w)(h:vu u w (0,[]) (eW))(k:eF w u):WF v u w (0,[]) (eW):=
 ⟨h,by rintro k (rfl|b);exact a.size;simp[Value.ownBlock] at b,a.trans k⟩
theorem WF.to{p:Nat}{st c:WS}{v:eS}(h:WF w u p st v)(a:wE p u v W c x):WF w W p c x:=by
 refine⟨a.st, ?_,a.lS.ext h.ext h.m9⟩;rintro d (rfl|f)
 ·exact h.m9 _ (.inl rfl)
 ·rcases a.m9 d f with b|b
  ·exact h.m9 d (.inr b)
  ·exact eY h.ext.size b
theorem WF.ex{w:eI}{p:Nat}{a:WS}{v:eS}(h:WF u w p a v)(b:eF w W):WF u W p a v:=⟨h.st.ext b,h.m9,h.ext.trans b⟩
structure RF(w0 w:eI)(p:Nat)(st:WS)(A:fE)(cap:Nat):Prop where
 st:wO w p st A cap
 base:w0.heap.size<=p
 m9:∀k,As A k->w0.heap.size<=k
 ext:eF w0 w
theorem RF.new{w:eI}{p cap:Nat}{A:fE}(a:eF v w)(h:wO u p (0,kR) A cap)(b:w.heap.size<=p)(c:∀k,As A k->w.heap.size<=k)(k:eF w u):RF v u p (0,kR) A cap:=
 ⟨h,eY a.size b,λk d=>eY a.size (c k d),a.trans k⟩
theorem RF.to{p:Nat}{st d:WS}{A:fE}{cap:Nat}(h:RF w v p st A cap)(a:xo p v A u d C n):RF w u p d C n:=
 ⟨a.st,h.base,λb c=>h.m9 b (a.m9 b c),a.lS.ext h.ext (λb c=>by rw[c];exact h.base)⟩
theorem RF.ex{w:eI}{p cap:Nat}{a:WS}{A:fE}(h:RF v w p a A cap)(b:eF w u):RF v u p a A cap:=⟨h.st.ext b,h.base,h.m9,h.ext.trans b⟩
section
def WT(T:gh)(w0 w:eI)(p:Nat)(R:gh):Prop:=∃v b,WF w0 w p (0,b) v/\b++R=T
def Vt:mB:=[352,5]
def NC(T:gh)(w0 w:eI)(p:Nat)(R:gh)(e:Ending)(w':eI):Prop:=e=fH (ij #[])/\WT T w0 w' p R/\CH w0 Vt [] w w'
theorem Ey{b:WS}(h:WF w v n b x)(c:fi (ftp n x) v u):CH w Vt [] v u:=fi.mono c λd a=>by
 refine⟨h.m9 d a,.inl ?_⟩;rcases a with rfl|a
 ·exact⟨_,_,_,h.st.eH,by simp[Vt]⟩
 ·rcases h.st.own.2 with⟨e,_⟩|⟨i,j,f,e,_,g,_⟩
  ·rw[e] at a;cases a
  ·rw[e] at a;simp only[Value.ownBlock,fd] at a;subst a;exact⟨f,_,_,g,by simp[Vt]⟩
theorem yN(b:Nat):∀a:fS,(kL b a).length=a.length*b
 |[]=>by simp[kL]
 |c::a=>by rw[AR,fT,yN b a,iB,iw,lI];omega
section
variable {T:gh} {w0 w w':eI} {p:Nat} {R:gh}
theorem WT.lF(h:WT T w0 w p R):eF w0 w:=by obtain⟨a,b,h,_⟩:=h;exact h.ext
theorem WT.ex(h:WT T w0 w p R)(a:eF w w'):WT T w0 w' p R:=by obtain⟨b,c,h,e⟩:=h;exact⟨b,c,h.ex a,e⟩
theorem Tf(h:vu w' w (0,[]) (eW))(a:eF w w'):WT T w w' w T:=⟨_,[],WF.new (eF.refl w) h a,rfl⟩
theorem Q8(z:T.length<=1000000)(a:Nat)(n:iS a=true)(b:fS)(i:∀d∈b,iu d a=true)(r:∀d∈b, -9223372036854775808<=d/\d<=9223372036854775807){j:eS}{c:gh}(k:WF w0 w p (0,c) j)(e:c++(kL a b++R)=T)(f:fE)(o:Nat)(s:Rd w f (ints b))(t:∀g l,ftp p j g->f≠some (eJ g l)):
 Calls prog 97 #[fw p,eE (a:Nat),.slice f b o] w (NC T w0 w p R):=by
 have u:=congrArg List.length e;simp only[fT,yN] at u;have v:1<=a/\a<=8:=by rcases jB n with h|h|h|h<;>omega
 have A:b.length<=b.length*a:=Sn _ v.1;refine(Ct p (0,c) j a f o b w k.st s r (λg l x _ i=>t g l i x) (by omega) (by show c.length+_<=_;omega)).mono ?_;rintro B C ⟨rfl,y,m⟩;rw[Ip a n c b c i] at m;exact⟨rfl,⟨y,c++kL a b,k.to m,by rw[<-e,iK]⟩,Ey k m.lS⟩
theorem GU(f:T.length<=1000000)(b:Nat)(g:iS b=true)(a:fS)(i:∀c∈a,iu c b=true)(j:∀c∈a, -9223372036854775808<=c/\c<=9223372036854775807)(h:WT T w0 w p (kL b a++R)):
 Calls prog 97 #[fw p,eE (b:Nat),fN w a a] (w.alloc (eN (ints a).toArray 3)) (NC T w0 (w.alloc (eN (ints a).toArray 3)) p R):=by
 obtain⟨n,o,d,e⟩:=h;refine Q8 f b g a i j (d.ex (eF.alloc _ _)) e _ _ ?_ λk r l m=> ?_
 ·have:=eQ.rd (eQ.new w 3 (ints a).toArray);simpa using this
 ·simp only[fd,ny] at m;have:=d.st.lt k l;omega
theorem lG(c:T.length<=1000000)(b:Nat)(d:iS b=true)(a:Int)(f:iu a b=true)(g: -9223372036854775808<=a/\a<=9223372036854775807)(h:WT T w0 w p (fD b a++R)):
 Calls prog 97 #[fw p,eE (b:Nat),fN w 1 1] (w.alloc (eN #[eE a] 3)) (NC T w0 (w.alloc (eN #[eE a] 3)) p R):=
 GU c b d [a] (by simpa using f) (by simpa using g) (by simpa[kL] using h)
theorem xq(d:T.length<=1000000)(a:Nat)(f:iS a=true)(b c:Int)(g:iu b a=true/\iu c a=true)(i:(-9223372036854775808<=b/\b<=9223372036854775807)/\(-9223372036854775808<=c/\c<=9223372036854775807))(h:WT T w0 w p (fD a b++(fD a c++R))):
 Calls prog 97 #[fw p,eE (a:Nat),fN w 2 2] (w.alloc (eN #[eE b,eE c] 3)) (NC T w0 (w.alloc (eN #[eE b,eE c] 3)) p R):=
 GU d a f [b,c] (by simpa using g) (by simpa using i) (by simpa[kL] using h)
theorem Q9(i:T.length<=1000000)(a:Nat)(j:iS a=true)(b c d f e:Int)(k:∀g∈[b,c,d,f,e],iu g a=true)(l:∀g∈[b,c,d,f,e], -9223372036854775808<=g/\g<=9223372036854775807)(h:WT T w0 w p (fD a b++(fD a c++(fD a d++(fD a f++(fD a e++R)))))):
 Calls prog 97 #[fw p,eE (a:Nat),fN w 5 5] (w.alloc (eN #[eE b,eE c,eE d,eE f,eE e] 3)) (NC T w0 (w.alloc (eN #[eE b,eE c,eE d,eE f,eE e] 3)) p R):=
 GU i a j [b,c,d,f,e] k l (by simpa[kL] using h)
theorem Ez{d:WS}(f:WF w0 w p d x){b:fE}{c:fY}(g:Rd w0 b c)(i:0<c.length)(a j:Nat)(k:ftp p x a):b≠some (eJ a j):=λe=>by have n:=f.m9 a k;obtain⟨o,r,l,m⟩:=g 0 i;rw[l] at e;simp only[fd,ny] at e;have:=js m;omega
theorem Cw(A:T.length<=1000000)(a:Nat)(k:iS a=true)(b:fS)(g:∀c∈b,iu c a=true)(n:∀c∈b, -9223372036854775808<=c/\c<=9223372036854775807)(h:WT T w0 w p (kL a b++R))(i:fE)(c l:Nat)(o:b.length=c)(m:Rd w0 i (ints b)):
 Calls prog 97 #[fw p,eE (a:Nat),.slice i c l] w (NC T w0 w p R):=by
 subst o;obtain⟨r,d,f,e⟩:=h;have s:=congrArg List.length e;simp only[fT,yN] at s;have t:1<=a/\a<=8:=by rcases jB k with h|h|h|h<;>omega
 have B:b.length<=b.length*a:=Sn _ t.1;refine(Ct p (0,d) r a i l b w f.st (f.ext.rd m) n (λu v x y g=>Ez f m y u v g x) (by omega) (by show d.length+_<=_;omega)).mono ?_;rintro C D ⟨rfl,z,j⟩;rw[Ip a k d b d g] at j;exact⟨rfl,⟨z,d++kL a b,f.to j,by rw[<-e,iK]⟩,Ey f j.lS⟩
theorem EB(v:T.length<=1000000)(a:gh)(h:WT T w0 w p (fD 4 a.length++a++R))(d:fE)(g i:Nat)(k:a.length=g)(j:Rd w0 d (jl a)):
 Calls prog 98 #[fw p,.slice d g i] w (NC T w0 w p R):=by subst k;obtain⟨l,c,b,e⟩:=h;have m:=congrArg List.length e;simp only[fT] at m;refine(Kg p (0,c) l d i a w b.st (b.ext.rd j) (λn o r s t=>Ez b j s n o t r) (by show c.length+_+_<=_;omega)).mono ?_;rintro x y ⟨rfl,u,f⟩;rw[JU a c (by omega)] at f;exact⟨rfl,⟨u,c++(fD 4 a.length++a),b.to f,by rw[<-e];simp only[iK]⟩,Ey b f.lS⟩
theorem Q'(a:List gh):(a.map fI).map gC=a:=by rw[jL];refine(mP λb _=> ?_).trans (Ig _);exact fU b
theorem ID(x:T.length<=1000000)(a:List gh)(d:∀f∈a,f.length<=4096)(h:WT T w0 w p (MY a++R)):
 Calls prog 96 #[fw p,fN w a a] (w.alloc (eN (strs (a.map fI)).toArray 9)) (NC T w0 (w.alloc (eN (strs (a.map fI)).toArray 9)) p R):=by
 obtain⟨l,b,c,e⟩:=h;have j:=congrArg List.length e;simp only[fT] at j;have y:a.length<=(MY a).length:=by
  clear j e d;induction a with
  |nil=>simp
  |cons f a z=>rw[M0,fT,fT,iB,iw];omega
 have g:=eF.alloc w (eN (strs (a.map fI)).toArray 9);have m:Rd (w.alloc (eN (strs (a.map fI)).toArray 9)) (some (eJ w 0)) (strs (a.map fI)):=by have:=eQ.rd (eQ.new w 9 (strs (a.map fI)).toArray);simpa using this
 have k:(a.map fI).length=a.length:=gW _;rw[<-k];refine(Ev p (0,b) l (some (eJ w 0)) (a.map fI).length (a.map fI) _ (c.st.ext g) m (λn A o _ r=> ?_) (by show b.length+_<=_;rw[k];omega) (λf s=> ?_)).mono ?_
 ·simp only[fd,ny] at o;have:=c.st.lt n r;omega
 ·obtain⟨t,u,rfl⟩:=fy.1 s;rw[gV];have:=d t u;omega
 rintro B C ⟨rfl,v,i⟩;rw[Q',D7 a b d] at i;exact⟨rfl,⟨v,b++MY a,(c.ex g).to i,by rw[<-e,iK]⟩,Ey (c.ex g) i.lS⟩
theorem ND(b:T.length<=1000000)(a:gh)(c:a.length<=4096)(h:WT T w0 w p (sP a++R)):
 Calls prog 96 #[fw p,fN w 1 1] (w.alloc (eN #[eV (fI a)] 9)) (NC T w0 (w.alloc (eN #[eV (fI a)] 9)) p R):=
 ID b [a] (by simpa using c) (by simpa[MY,sP] using h)
theorem EC(c:T.length<=1000000)(a b:gh)(d:a.length<=4096/\b.length<=4096)(h:WT T w0 w p (sP a++(sP b++R))):
 Calls prog 96 #[fw p,fN w 2 2] (w.alloc (eN #[eV (fI a),eV (fI b)] 9)) (NC T w0 (w.alloc (eN #[eV (fI a),eV (fI b)] 9)) p R):=
 ID c [a,b] (by simpa using d) (by simpa[MY,sP] using h)
theorem ED(h:WT T w0 w p R)(l:T.length<=1000000)(c:fE)(d:Nat):
 Calls prog 96 #[fw p,.slice c 0 d] w (NC T w0 w p R):=by obtain⟨g,a,b,e⟩:=h;have i:=congrArg List.length e;simp only[fT] at i;refine(Ev p (0,a) g c d [] w b.st (Rd.nil _ _) (λm n _ j _=>by simp[strs] at j) (by show a.length+_<=_;simp;omega) (by simp)).mono ?_;rintro o r ⟨rfl,k,f⟩;exact⟨rfl,⟨k,a,b.to f,e⟩,Ey b f.lS⟩
def Cx(w0:eI)(T:gh)(e:Ending)(w':eI):Prop:=∃A c,e=fH (ij #[.slice A T c,eE 0])/\w'.ownsRow w0 5 1 (.slice A T c) T (jl T)/\eF w0 w'
theorem NE(j:T.length<=1000000)(h:WT T w0 w p []):Calls prog 100 #[fw p] w (Cx w0 T):=by obtain⟨d,c,a,e⟩:=h;rw[ox] at e;subst e;refine(Kd p (0,c) d w a.st (by show c.length<=_;omega)).mono ?_;rintro k l ⟨m,rfl,f,b⟩;rw[fW rfl,fW rfl] at b;obtain⟨g,i,rfl⟩:=eR b;exact⟨g,i,rfl,fq b a.ext.size,a.ext.trans f⟩
end
theorem Km(c q:Int):fD 8 (c+18446744073709551616*q)=fD 8 c:=by
 unfold fD;refine mP λa b=> ?_;rw[ll] at b;unfold Qr;congr 2
 have b:a=0\/a=1\/a=2\/a=3\/a=4\/a=5\/a=6\/a=7:=by omega
 rcases b with rfl|rfl|rfl|rfl|rfl|rfl|rfl|rfl;all_goals
  simp only[Nat.reduceMul,Int.reducePow];omega
theorem yO(a:Int):fD 8 (wrap64 a)=fD 8 a:=by
 have:wrap64 a=a+18446744073709551616*(-((a+9223372036854775808)/18446744073709551616)):=by unfold wrap64;omega
 rw[this,Km]
theorem Bf(a:Int): -9223372036854775808<=wrap64 a/\wrap64 a<=9223372036854775807:=by unfold wrap64;omega
theorem NF(a:Nat)(h:a<18446744073709551616):IntKind.u64.wrap (wrap64 a)=a:=by
 have e:IntKind.u64.wrap (wrap64 a)=wrap64 a%18446744073709551616:=by simp[IntKind.wrap,IntKind.bits,IntKind.signed]
 rw[e];unfold wrap64;omega
end
structure IE(s:lu):Prop where
 len:s.enc.length<=1000000
 bl:s.mU.length<=512
 bf:∀b∈s.mU,b.length<=512/\∀x∈b,0<=x/\x<=512
 wl:s.gv.length<=64
 wf:∀x∈s.gv,x<18446744073709551616
 ke:Er s.gC s.inits s.gJ
 UD:s.gC.length<=64
def lu.e3(s:lu):gh:=s.mU.flatMap It++s.tail
def lu.e2(s:lu):gh:=s.gy.flatMap rK++(fD 2 s.mU.length++s.e3)
def lu.e1(s:lu):gh:=s.ft.flatMap mq++(fD 1 0++(fD 2 s.gy.length++s.e2))
def wB(x:Nat):gh:=fD 8 x
def lu.t2(s:lu):gh:=fD 2 0++(fD 2 0++(fD 1 s.inits.length++(kL 4 s.inits++(fD 1 s.gJ.length++(kL 4 s.gJ++(fD 2 0++fD 4 0))))))
def lu.t1(s:lu):gh:=s.gv.flatMap wB++s.t2
theorem IF(a:lu):a.tail=fD 1 6++(fD 1 a.gv.length++a.t1):=by
 have:kL 8 (eM a.gv)=a.gv.flatMap wB:=by unfold kL eM;rw[List.flatMap_map];rfl
 unfold lu.tail lu.t1 lu.t2;rw[this]
theorem IG(a:gh)(b c d:Int)(R:gh):rK (gR a b true c d)++R=sP a++(sP []++(fD 1 1++(fD 1 b++(fD 1 0++(fD 1 0++(fD 1 1++(fD 8 c++(fD 8 d++R)))))))):=by unfold rK gR;simp only[fU,Ea,iK];rfl
theorem Er.le{n:Nat}(h:Er n kM kN):kM.length<=1/\kN.length<=1/\(∀x∈kM,0<=x/\x+8<=n)/\∀x∈kN,0<=x/\x+8<=n:=by
 rcases h with⟨rfl,rfl⟩|⟨x,a,rfl,rfl,b,c,d,f⟩
 ·simp
 ·simp;omega
theorem mu{d:Type}(c:d->gh)(a:List d){b:Nat}(h:b<a.length)(R:gh):(a.drop b).flatMap c++R=c a[b]++((a.drop (b+1)).flatMap c++R):=by rw[sN h,oz,iK]
theorem nE{a:Type}(c:a->gh)(b:List a)(R:gh):(b.drop b).flatMap c++R=R:=by simp
theorem rW{R R':gh}(h:WT kR w v n R)(e:R=R'):WT kR w v n R':=e▸h
theorem GV(b:Im)(a:lu)(j:eI)(h:Gx j b a)(aE:a.gy.length<=b.sc)(aF:j5 b.t a.gy=true)(aG:∀am∈a.gy,am.Fit)(z:IE a):
 Calls prog 57 #[fV b.eL.toArray] j (Cx j a.enc):=by
 obtain⟨N,O,an⟩:=h.zM;obtain⟨sb,so,aH,b5,d0,d1,d2,d3⟩:=an.cells;have HM:=eD (λl (w:eF j l)=>Cq b a l (h.ext w) aE aF aG z.ke);have q0:b.eL.toArray[0]? =some (.string (fI a.name)):=by show some (Value.string b.c0)=_;rw[h.name]
 have q1:b.eL.toArray[1]? =some (.int .i64 a.gB):=by show some (Value.int .i64 b.c1)=_;rw[h.gB]
 have q2:b.eL.toArray[2]? =some (.slice (some (eJ sb so)) 1 b.c2.c):=by show some (Value.slice b.c2.A b.c2.n b.c2.c)=_;rw[aH,h.n2]
 have q3:b.eL.toArray[3]? =some (.slice b.c3.A a.ft.length b.c3.c):=by show some (Value.slice b.c3.A b.c3.n b.c3.c)=_;rw[h.n3]
 have q4:b.eL.toArray[4]? =some (.slice b.c4.A 0 b.c4.c):=by show some (Value.slice b.c4.A b.c4.n b.c4.c)=_;rw[h.z4]
 have q5:b.eL.toArray[5]? =some (.slice b.SA a.gy.length b.sc):=by show some (Value.slice b.SA b.l.length b.sc)=_;rw[h.l]
 have q6:b.eL.toArray[6]? =some (.slice b.t.BA b.t.bs.length b.t.bc):=rfl;have q7:b.eL.toArray[7]? =some (.slice b.t.WA a.gv.length b.t.wc):=by show some (Value.slice b.t.WA b.t.ws.length b.t.wc)=_;rw[h.gv]
 have q8:b.eL.toArray[8]? =some (.int .i64 6):=by show some (Value.int .i64 b.t.sh)=_;rw[h.shift]
 have q9:b.eL.toArray[9]? =some (.slice b.c9.A 0 b.c9.c):=by show some (Value.slice b.c9.A b.c9.n b.c9.c)=_;rw[h.z9]
 have aI:b.eL.toArray[10]? =some (.slice b.rh.A 0 b.rh.c):=by show some (Value.slice b.rh.A b.rh.n b.rh.c)=_;rw[h.Sk]
 have bu:b.eL.toArray[11]? =some (.slice b.pU.A a.inits.length b.pU.c):=by show some (Value.slice b.pU.A b.pU.n b.pU.c)=_;rw[h.n11]
 have bv:b.eL.toArray[12]? =some (.slice b.pV.A a.gJ.length b.pV.c):=by show some (Value.slice b.pV.A b.pV.n b.pV.c)=_;rw[h.n12]
 have bw:b.eL.toArray[13]? =some (.slice b.C9.A 0 b.C9.c):=by show some (Value.slice b.C9.A b.C9.n b.C9.c)=_;rw[h.pI]
 have bx:b.eL.toArray[14]? =some (.int .i64 0):=by show some (Value.int .i64 b.T')=_;rw[h.UA]
 have P:=h.ok;have aJ:=eD P;have HE:=eD z;have bz:=eD h.h'.rd;have bA:=eD h.sy;have bB:=eD h.Vq;have bC:=eD h.mU;have bD:Hid (Rd j b.t.WA (kq a.gv)):=eD (by rw[<-h.gv];exact h.Vq.Vm);have bE:=eD h.rM;have bF:=eD h.yv;have bG:=eD an.bytes;have b7:a.gC.length<=64/\a.ft.length<=8/\a.gy.length<=2/\a.gv.length<=64/\a.inits.length<=1/\a.gJ.length<=1:=⟨z.UD,P.h',P.gy,z.wl,z.ke.le.1,z.ke.le.2.1⟩;have ao:b.t.bs.length=a.mU.length:=by rw[<-h.mU,gW]
 have b8:b.t.bs.length<=512:=by rw[ao];exact z.bl
 have ap:=eD ao;have aK:iu a.gB 1=true/\0<=a.gB/\a.gB<=1:=by rcases P.gB with h|h<;>rw[h]<;>decide
 have aL:=eD aK;have f:=eD z.len;obtain⟨m,aq⟩:∃m,m=a.enc:=⟨_,rfl⟩;rw[<-aq] at f ⊢;have HX:Hid (m=sP rL++(sP a.name++(fD 1 a.gB++(fD 1 1++(fD 4 0++(fD 4 a.gC.length++(fD 1 5++((fD 4 a.gC.length++a.gC)++(fD 1 a.ft.length++a.e1))))))))):=eD aq;have b9:a.name.length<=64:=by rcases P.name with h|h;rw[h];simp;exact h.2.2
 have b0:=P5 j b;have aM:=eD (eF.alloc j (eN b.eL.toArray 174));have aN:=eD (λl (h:eQ l j 174 b.eL.toArray)=>oD h);clear h aE aF aG z an aH P aq ao aK;generalize b.eL=vs at*;obtain⟨_,_,⟨_,_,c2⟩,⟨A3,_,c3⟩,⟨A4,_,c4⟩,SA,sc,_,⟨TA,tc,v,TW,b',_,_⟩,⟨A9,_,c9⟩,⟨ca,_,cb⟩,⟨Q,_,A⟩,⟨S,_,B⟩,⟨bH,_,bI⟩,_⟩:=b;simp only at*;go_in;go_wp2_with (refine eK rfl 174 (.tmp 1) rfl _ rfl (fV vs.toArray) ?_ ?_)
 ·exact aN _ b0
 go_wp2_with fail
 refine(HM _ aM).mono ?_;rintro e p ⟨rfl,w⟩;have bJ:=eD (w.eH b0);have r:=eD (aM.trans w);clear w b0 HM aN;go_wp2_with fail
 refine(zU p).mono ?_;rintro e w2 ⟨rfl,aO,aP⟩;have g:Hid (∀l,eF p l->∀(c:Nat) (t:eS),vs.toArray[c]? =some t->l.cell? (eJ j c)=some t):=eD (λl w c t hv=>(w.eH bJ).cell c hv);have d:WT m p w2 p (sP rL++(sP a.name++(fD 1 a.gB++(fD 1 1++(fD 4 0++(fD 4 a.gC.length++(fD 1 5++((fD 4 a.gC.length++a.gC)++(fD 1 a.ft.length++a.e1))))))))):=by rw[<-HX];exact Tf aO aP
 have n:=eD d;clear d aO aP HX;generalize j.heap.size=cc at*;generalize p.heap.size=C at*;have k0:=g _ n.lF 0 _ q0;go_wp2_with fail
 refine(EC f rL a.name ⟨by decide,by omega⟩ n).mono ?_;rintro e w3 ⟨rfl,Y,_⟩;have H3:=eD Y;clear Y n k0 q0;have k1:=g _ H3.lF 1 _ q1;have k2:=g _ H3.lF 2 _ q2;go_wp2_with fail
 refine(xq f.out 1 rfl a.gB 1 ⟨aL.1,by decide⟩ ⟨by have:=aL.out;omega,by decide⟩ H3.out).mono ?_;rintro e w4 ⟨rfl,x,_⟩;have H4:=eD x;have k2:=g _ x.lF 2 _ q2;replace d0:=(r.trans x.lF).cell d0;replace d1:=(r.trans x.lF).cell d1;replace d2:=(r.trans x.lF).cell d2;replace d3:=(r.trans x.lF).cell d3;clear x H3 k1 q1;go_wp2;refine wp_loop_rounds 2 ?_;rw[rounds_succ];go_wp2_with fail
 have aQ:=eQ.new w4 255 #[eE 0,eE a.gC.length,.slice N a.gC.length O,eE 5];have aR:=fM w4 (eN #[eE 0,eE a.gC.length,.slice N a.gC.length O,eE 5] 255);have aS:=eF.alloc w4 (eN #[eE 0,eE a.gC.length,.slice N a.gC.length O,eE 5] 255);generalize w4.alloc (eN #[eE 0,eE a.gC.length,.slice N a.gC.length O,eE 5] 255)=w5 at*;try rw[<-aR]
 clear aR;have H5:=eD (H4.ex aS);clear d0 d1 d2 d3 k2 H4 aS;refine(xq f 4 rfl 0 a.gC.length ⟨by decide,iP (by omega) (by omega)⟩ ⟨by decide,by omega⟩ H5).mono ?_;rintro e w6 ⟨rfl,Z,c6⟩;have H6:=eD Z;have b6:=c6.eH ((eF.alloc _ _).eH aQ);have k3:=b6.ce 3 (eE 5);clear Z c6 aQ H5;go_wp2_with fail
 refine(lG f 1 rfl 5 (by decide) (by decide) H6).mono ?_;rintro e w7 ⟨rfl,h7,c7⟩;have H7:=eD h7;have k3:=(c7.eH ((eF.alloc _ _).eH b6)).ce 2 (.slice N a.gC.length O);clear h7 c7 b6 H6;go_wp2_with fail
 refine(EB f a.gC H7 N _ O rfl (r.rd bG)).mono ?_;rintro e w8 ⟨rfl,h8,_⟩;have H8:=eD h8;clear h8 k3 H7;go_wp2;rw[rounds_succ];have k3:=g _ H8.lF 3 _ q3;go_wp2_with fail
 refine(lG f 1 rfl a.ft.length (iP (by omega) (by omega)) (by omega) H8).mono ?_;rintro e w9 ⟨rfl,h9,_⟩;have H9:Hid (WT m p w9 C (a.ft.flatMap mq++(fD 1 0++(fD 2 a.gy.length++a.e2)))):=eD h9;have k3:=g _ h9.lF 3 _ q3;clear h9 H8;go_wp2;go_loopw [74] (λi wr=>∃c:Nat,c<=a.ft.length/\i=eE c/\WT m p wr C ((a.ft.drop c).flatMap mq++(fD 1 0++(fD 2 a.gy.length++a.e2)))) (λi _=>a.ft.length- (intOf i).toNat)
 case atStart=>exact⟨0,eX _,rfl,H9⟩
 case round=>
  obtain⟨c,J,rfl,d⟩:=hrel;clear k3 H9;by_cases k:c<a.ft.length
  ·obtain⟨nb,no,rfl,hb,e0,e1⟩:=xl ((r.trans d.lF).rd bz) k;have o:=aJ.eP _ (eU k);have u:=eD (rW d (R':=sP a.ft[c]++(fD 1 0++((a.ft.drop (c+1)).flatMap mq++(fD 1 0++(fD 2 a.gy.length++a.e2))))) (by rw[mu mq a.ft k,mq,iK]));clear d;generalize a.ft[c]=nm at*;go_wp2_with fail
   have aT:=eQ.new wr 130 #[eV (fI nm),eW];have aU:=fM wr (eN #[eV (fI nm),eW] 130);have aV:=eF.alloc wr (eN #[eV (fI nm),eW] 130);generalize wr.alloc (eN #[eV (fI nm),eW] 130)=bK at*;try rw[<-aU]
   clear aU;have ad:=eD (u.ex aV);clear e0 e1 aV u;refine(ND f nm (by omega) ad).mono ?_;rintro e bL ⟨rfl,T,A⟩;have ae:=eD T;have ar:=A.eH ((eF.alloc _ _).eH aT);have k1:=ar.ce 1 (eW);clear T A aT ad;go_wp2_with fail
   refine(lG f 1 rfl 0 (by decide) (by decide) ae).mono ?_;rintro e aW ⟨rfl,U,B⟩;have af:=eD U;have k1:=(B.eH ((eF.alloc _ _).eH ar)).ce 1 (eW);clear U B ar ae;go_wp2_with fail
   refine(ED af f none 0).mono ?_;rintro e au ⟨rfl,V,_⟩;have K:=eD V;clear V af k1;go_wp2;go_roundw
   case rel=>exact⟨c+1,by omega,by go_num,K⟩
   case measure=>simp[intOf];omega
  ·obtain rfl:c=a.ft.length:=by omega
   have n:=eD (rW d (nE mq a.ft _));have k4:=g _ d.lF 4 _ q4;clear d k J;go_wp2_with fail
   refine(lG f 1 rfl 0 (by decide) (by decide) n).mono ?_;rintro e bK ⟨rfl,av,_⟩;have ad:=eD av;have k4:=g _ av.lF 4 _ q4;clear av n;go_wp2_with fail
   refine(ED ad f A4 c4).mono ?_;rintro e bL ⟨rfl,T,_⟩;have ae:=eD T;have k5:=g _ T.lF 5 _ q5;clear T ad k4;go_wp2_with fail
   refine(lG f 2 rfl a.gy.length (iP (by omega) (by omega)) (by omega) ae).mono ?_;rintro e aW ⟨rfl,U,_⟩;have af:Hid (WT m p aW C (a.gy.flatMap rK++(fD 2 a.mU.length++a.e3))):=eD U;have k5:=g _ U.lF 5 _ q5;clear U ae;go_wp2;go_loopw [113] (λi wr=>∃c:Nat,c<=a.gy.length/\i=eE c/\WT m p wr C ((a.gy.drop c).flatMap rK++(fD 2 a.mU.length++a.e3))) (λi _=>a.gy.length- (intOf i).toNat)
   case atStart=>exact⟨0,eX _,rfl,af⟩
   case round=>
    obtain⟨c,J,rfl,d⟩:=hrel;clear k5 af;by_cases k:c<a.gy.length
    ·obtain⟨yb,yo,hA,cd,hy⟩:=bA.Dt k;obtain⟨ag,D,t,G,hs,bM,ce,cf,aw,bN,bO,bP⟩:=aJ.sym _ (eU k);rw[hs] at hy;obtain⟨h0,h1,h2,Y,x,h5,Z,h7,h8⟩:=hy.ext (r.trans d.lF);simp only[gR] at h0 h1 h2 Y x h5 Z h7 h8;have u:=eD (rW d (by rw[mu rK a.gy k,hs,IG]));have HB:Hid (-9223372036854775808<=D/\D<=9223372036854775807/\ -9223372036854775808<=t/\t<=9223372036854775807/\ -9223372036854775808<=G/\G<=9223372036854775807):=eD (by rcases aw with rfl|rfl<;>omega);have bQ:Hid (iu D 1=true):=eD (by rcases aw with rfl|rfl<;>decide);subst hA;have aX:Hid (∀j,Calls prog 99 #[fz false] j λe l=>e=fH (eE 0)/\j=l):=eD (λj=>Ep false j);have bR:Hid (∀j,Calls prog 99 #[fz true] j λe l=>e=fH (eE 1)/\j=l):=eD (λj=>Ep true j);clear d hy hs aw bN bO bP bM;go_wp2_with fail
     have aY:=eQ.new wr 118 #[eV (fI ag),eV ⟨#[]⟩,fz false,eE 1,fz false,eE D,fz true,eE t,eE G];have aZ:=fM wr (eN #[eV (fI ag),eV ⟨#[]⟩,fz false,eE 1,fz false,eE D,fz true,eE t,eE G] 118);have a0:=eF.alloc wr (eN #[eV (fI ag),eV ⟨#[]⟩,fz false,eE 1,fz false,eE D,fz true,eE t,eE G] 118);generalize wr.alloc (eN #[eV (fI ag),eV ⟨#[]⟩,fz false,eE 1,fz false,eE D,fz true,eE t,eE G] 118)=au at*;try rw[<-aZ]
     clear aZ;have K:=eD (u.ex a0);clear h0 h1 h2 Y x h5 Z h7 h8 a0 u;refine(EC f ag [] ⟨by omega,by decide⟩ K).mono ?_;rintro e ah ⟨rfl,E,a1⟩;have H:=eD E;have L:=eD (a1.eH ((eF.alloc _ _).eH aY));clear E a1 aY K;generalize wr.heap.size=gs at*;have e2:=L.out.ew 2 (fz false) rfl;have e3:=L.out.ew 3 (eE 1) rfl;have e4:=L.out.ew 4 (fz false) rfl;have e5:=L.out.ew 5 (eE D) rfl;have e6:=L.out.ew 6 (fz true) rfl;go_wp2;refine iW [0,1,2,3,4,5,6,8,9,11,12] [7,10,13,14] (.e [7] (.e [10] (.e [13] (.e [14] (.e [15] .done))))) ?_;repeat(go_big_quiet_step (fail))
     refine eO ?_;clear e2 e3 e4 e5 e6;have M:=eD (eF.drew ah);generalize World.drew ah=ax at*;refine eZ ?_;go_wp2_with fail
     refine(aX _).mono ?_;rintro e l ⟨rfl,rfl⟩;go_wp2;refine⟨⟨⟨_,M⟩,rfl⟩, ?_⟩;refine eZ ?_;go_wp2_with fail
     refine(aX _).mono ?_;rintro e l ⟨rfl,rfl⟩;go_wp2;refine⟨⟨⟨_,M⟩,rfl⟩, ?_⟩;refine eZ ?_;go_wp2_with fail
     refine(bR _).mono ?_;rintro e l ⟨rfl,rfl⟩;go_wp2;refine⟨⟨⟨_,M⟩,rfl⟩, ?_⟩;refine eZ ?_;go_wp2;refine⟨⟨⟨_,M.trans (eF.alloc _ _)⟩,rfl⟩, ?_⟩;refine eT ?_;have F:=eD (H.ex M);go_wp2_with fail
     refine(Q9 f.out 1 rfl 1 D 0 0 1 (by have:=bQ.out;simp[this];decide) (by have:=HB.out;simp;omega) F.out).mono ?_;rintro e W ⟨rfl,I,a2⟩;have ai:=eD I;have ay:=a2.eH ((eF.alloc _ _).eH (M.eH L.out));have k7:=ay.ce 7 (eE t);have k8:=ay.ce 8 (eE G);clear I a2 ay F H L M;go_wp2;rw[m8];refine fP ?_;go_wp2_with fail
     refine(xq f 8 rfl t G ⟨AQ _,AQ _⟩ ⟨HB.2.2.imp id (λh=>h.1),HB.2.2.2.2⟩ ai).mono ?_;rintro e bS ⟨rfl,a3,_⟩;have ak:=eD a3;clear a3 ai k7 k8;go_wp2;go_roundw
     case rel=>exact⟨c+1,by omega,by go_num,ak⟩
     case measure=>simp[intOf];omega
    ·obtain rfl:c=a.gy.length:=by omega
     have n:=eD (rW d (nE rK a.gy _));have k6:=g _ d.lF 6 _ q6;clear d k J;go_wp2_with fail
     refine(lG f 2 rfl v.length (iP (by omega) (by omega)) (by omega) (R:=a.e3) (rW n (by rw[ap]))).mono ?_;rintro e au ⟨rfl,V,_⟩;have K:Hid (WT m p au C (a.mU.flatMap It++a.tail)):=eD V;have k6:=g _ V.lF 6 _ q6;clear V n;go_wp2;go_loopw [159] (λi wr=>∃c:Nat,c<=v.length/\i=eE c/\WT m p wr C ((a.mU.drop c).flatMap It++a.tail)) (λi _=>v.length- (intOf i).toNat)
     case atStart=>exact⟨0,eX _,rfl,K⟩
     case round=>
      obtain⟨c,J,rfl,d⟩:=hrel;clear k6 K;by_cases k:c<v.length
      ·obtain⟨cg,ch,a4,aj,az⟩:=bB.Gb (i:=c) k;have a5:v.getD c Dq=v[c]:=by rw[jx,gg k];rfl
       simp only[a5] at a4 aj az;clear a5;have aA:c<a.mU.length:=by rw[<-ap];exact k
       have heq:a.mU[c]=v[c].is:=by simp only[<-bC.out,jy]
       have a6:=HE.bf _ (eU aA);rw[heq] at a6;obtain⟨bT,a7⟩:=a6;have al:=eD a7;have u:=eD (rW d (R':=fD 2 v[c].is.length++(kL 2 v[c].is++((a.mU.drop (c+1)).flatMap It++a.tail))) (by rw[mu It a.mU aA,heq,It,iK]));have aj:=(r.trans d.lF).cell aj;have a8:=eD (r.rd az.rd);subst a4;clear d heq a7 aA az;generalize v[c]=bU at*;obtain⟨bV,bW,is⟩:=bU;simp only[Bk.cell] at aj bT al u a8;go_wp2_with fail
       refine(lG f 2 rfl is.length (iP (by omega) (by omega)) (by omega) u).mono ?_;rintro e ah ⟨rfl,E,_⟩;have H:=eD E;clear E u aj;go_wp2_with fail
       refine(Cw f 2 rfl is (λs o=>iP (by have:=al s o;omega) (by have:=al s o;omega)) (λs o=>by have:=al s o;omega) H bV _ bW rfl a8).mono ?_;rintro e ax ⟨rfl,y,_⟩;have F:=eD y;clear y H;go_wp2;go_roundw
       case rel=>exact⟨c+1,by omega,by go_num,F⟩
       case measure=>simp[intOf];omega
      ·obtain rfl:c=v.length:=by omega
       have n:=eD (rW d (R':=fD 1 6++(fD 1 a.gv.length++a.t1)) (by rw[ap,nE,IF]));have k7:=g _ d.lF 7 _ q7;have k8:=g _ d.lF 8 _ q8;clear d k J;go_wp2_with fail
       refine(xq f 1 rfl 6 a.gv.length ⟨by decide,iP (by omega) (by omega)⟩ ⟨by decide,by omega⟩ n).mono ?_;rintro e ah ⟨rfl,E,_⟩;have H:Hid (WT m p ah C (a.gv.flatMap wB++a.t2)):=eD E;have k7:=g _ E.lF 7 _ q7;clear E n k8;go_wp2;go_loopw [189] (λi wr=>∃c:Nat,c<=a.gv.length/\i=eE c/\WT m p wr C ((a.gv.drop c).flatMap wB++a.t2)) (λi _=>a.gv.length- (intOf i).toNat)
       case atStart=>exact⟨0,eX _,rfl,H⟩
       case round=>
        obtain⟨c,J,rfl,d⟩:=hrel;clear k7 H;by_cases k:c<a.gv.length
        ·obtain⟨wb,wo,hA,hc⟩:=((r.trans d.lF).rd bD) c (by simpa[kq] using k);have a9:(kq a.gv)[c]'(by simpa[kq] using k)=.int .u64 (a.gv[c]:Nat):=by simp[kq]
         rw[a9] at hc;have u:=eD (rW d (R':=fD 8 a.gv[c]++((a.gv.drop (c+1)).flatMap wB++a.t2)) (by rw[mu wB a.gv k,wB]));subst hA;clear d a9;generalize a.gv[c]=am at*;go_wp2_with fail
         refine(lG f 8 rfl (wrap64 am) (AQ _) (Bf _) (R:=(a.gv.drop (c+1)).flatMap wB++a.t2) (rW u (by rw[yO]))).mono ?_;rintro e ax ⟨rfl,y,_⟩;have F:=eD y;clear y u hc;go_wp2;go_roundw
         case rel=>exact⟨c+1,by omega,by go_num,F⟩
         case measure=>simp[intOf];omega
        ·obtain rfl:c=a.gv.length:=by omega
         have n:Hid (WT m p wr C (fD 2 0++(fD 2 0++(fD 1 a.inits.length++(kL 4 a.inits++(fD 1 a.gJ.length++(kL 4 a.gJ++(fD 2 0++fD 4 0)))))))):=eD (rW d (nE wB a.gv _));have k9:=g _ d.lF 9 _ q9;clear d k J;go_wp2_with fail
         refine(lG f 2 rfl 0 (by decide) (by decide) n).mono ?_;rintro e ax ⟨rfl,y,_⟩;have F:=eD y;have k9:=g _ y.lF 9 _ q9;have a':=g _ y.lF 10 _ aI;clear y n;go_wp2;refine wp_loop_rounds 1 ?_;rw[rounds_succ];go_wp2_with fail
         refine(lG f 2 rfl 0 (by decide) (by decide) F).mono ?_;rintro e W ⟨rfl,I,_⟩;have ai:=eD I;have a':=g _ I.lF 10 _ aI;have bX:=g _ I.lF 11 _ bu;have bY:=g _ I.lF 12 _ bv;clear I F k9;go_wp2;refine wp_loop_rounds 1 ?_;rw[rounds_succ];go_wp2;have aB:=eQ.new W 23 #[.slice Q a.inits.length A,.slice S a.gJ.length B];have bb:=fM W (eN #[.slice Q a.inits.length A,.slice S a.gJ.length B] 23);have bc:=eF.alloc W (eN #[.slice Q a.inits.length A,.slice S a.gJ.length B] 23);generalize W.alloc (eN #[.slice Q a.inits.length A,.slice S a.gJ.length B] 23)=bS at*;try rw[<-bb]
         clear bb;have ak:=eD (ai.ex bc);clear ai bc a' bX bY;have s0:=aB.ce 0 (.slice Q a.inits.length A);generalize W.heap.size=gl at*;refine wp_loop_rounds 3 ?_;rw[rounds_succ];go_wp2_with fail
         refine(lG f 1 rfl a.inits.length (iP (by omega) (by omega)) (by omega) ak).mono ?_;rintro e ci ⟨rfl,bd,be⟩;have bf:=eD bd;have bg:=be.eH ((eF.alloc _ _).eH aB);clear bd be aB ak s0;go_wp2_with fail
         have bh:=HE.ke.le;have X:=eD bh;clear bh;refine(Cw f 4 rfl a.inits (λs o=>iP (by have:=X.2.2.1 s o;omega) (by have:=X.2.2.1 s o;omega)) (λs o=>by have:=X.2.2.1 s o;omega) bf Q _ A rfl (r.rd bE)).mono ?_;rintro e cj ⟨rfl,bi,bj⟩;have bk:=eD bi;have bl:=bj.eH bg;have s1:=bl.ce 1 (.slice S a.gJ.length B);clear bi bj bg bf;go_wp2;rw[rounds_succ];go_wp2_with fail
         refine(lG f 1 rfl a.gJ.length (iP (by omega) (by omega)) (by omega) bk).mono ?_;rintro e ck ⟨rfl,bm,bZ⟩;have bn:=eD bm;clear bm bZ bk s1 bl;go_wp2_with fail
         refine(Cw f 4 rfl a.gJ (λs o=>iP (by have:=X.2.2.2 s o;omega) (by have:=X.2.2.2 s o;omega)) (λs o=>by have:=X.2.2.2 s o;omega) bn S _ B rfl (r.rd bF)).mono ?_;rintro e cl ⟨rfl,aC,_⟩;have bo:=eD aC;have b1:=g _ aC.lF 14 _ bx;clear aC bn;go_wp2;rw[rounds_succ];go_wp2_with fail
         refine(lG f 2 rfl 0 (by decide) (by decide) bo).mono ?_;rintro e cm ⟨rfl,aD,_⟩;have bp:=eD aD;have b2:=g _ aD.lF 13 _ bw;clear aD bo b1;go_wp2_with fail
         refine(EB f [] (R:=[]) (rW bp (by simp)) bH _ bI rfl (Rd.nil _ _)).mono ?_;rintro e cn ⟨rfl,bq,_⟩;have br:=eD bq;clear bq bp b2;go_wp2_with fail
         refine(NE f br).mono ?_;rintro e b3 ⟨bs,bt,rfl,ho,w⟩;have b4:Hid (Cx j m (fH (ij #[.slice bs m.length bt,eE 0])) b3):=eD ⟨bs,bt,rfl,fq ho r.size,r.trans w⟩;clear ho w br;go_wp2;go_ret2
         exact b4
theorem vV{w:eI}{A:fE}{a:List iV}(h:Rd w A (fO iV.eL a)):zD w A a:=by
 intro b s k;obtain⟨l,rfl⟩:=jS.1 k;have f:∀m:iV,(iV.eL m).length=9:=λ_=>rfl;have g:=kU f a;obtain⟨n,o,i,_⟩:=h (b*9) (by rw[g];omega);refine⟨n,o,iV.eL a[b],i,rfl,rfl,λc p=> ?_⟩;have j:b*9+c<(fO iV.eL a).length:=by rw[g];omega
 obtain⟨t,u,d,r⟩:=h (b*9+c) j;rw[i] at d;simp only[fd,ny,gP] at d;obtain⟨rfl,rfl⟩:=d;have e:=iI f a b c l p;rw[gg j] at e;rw[qX,r,<-e]
structure uV(w:eI)(B:Nat)(A:fE)(c:Nat)(BA:fE)(bc:Nat)(gC:gh):Prop where
 row:w.ownsRow B 255 4 (.slice A 1 c) 1 [eE 0,eE gC.length,.slice BA gC bc,eE 5]
 bytes:w.ownsRow B 5 1 (.slice BA gC bc) gC (jl gC)
theorem uV.ch{w:eI}{B B0:Nat}{L:mB}{A:fE}{c:Nat}{gC:gh}(h:uV w B A c C n gC)(a:CH B0 L [] w v)(b:255∉L)(d:5∉L):uV v B A c C n gC:=
 ⟨a.own h.row b (by simp),a.own h.bytes d (by simp)⟩
structure my(w:eI)(B:Nat)(m:Im)(s:lu):Prop where
 name:m.c0=fI s.name
 gB:m.c1=s.gB
 n2:m.c2.n=1
 FY:∃BA bc,uV w B m.c2.A m.c2.c BA bc s.gC
 n3:m.c3.n=s.ft.length
 h':w.ownsRow B 130 2 (.slice m.c3.A s.ft m.c3.c) s.ft (fO mr s.ft)
 z4:m.c4.n=0
 z9:m.c9.n=0
 Sk:m.rh.n=0
 pI:m.C9.n=0
 UA:m.T'=0
 n11:m.pU.n=s.inits.length
 n12:m.pV.n=s.gJ.length
 ok:s.Ok
 a4:m.c4.A=none
 l:m.l=s.gy
 sy:w.ownsRow B 118 9 (.slice m.SA s.gy m.sc) s.gy (fO iV.eL s.gy)
 bk:w.ownsRow B 23 1 (.slice m.t.BA m.t.bs m.t.bc) m.t.bs (m.t.bs.map Bk.cell)
 mU:m.t.bs.map Bk.is=s.mU
 wd:w.ownsRow B 270 1 (.slice m.t.WA s.gv m.t.wc) s.gv (kq s.gv)
 gv:m.t.ws=s.gv
 shift:m.t.sh=6
 rows:fo B w (oX m s)
theorem my.ch{w:eI}{B B0:Nat}{L:mB}{m:Im}{s:lu}(h:my w B m s)(a:CH B0 L [] w v)(b:255∉L)(c:5∉L)(d:130∉L)(f:118∉L)(g:23∉L)(i:270∉L)(j:3∉L):my v B m s:=by obtain⟨k,l,n⟩:=h.FY;exact {h with FY:=⟨k,l,n.ch a b c⟩,h':=a.own h.h' d (by simp),sy:=a.own h.sy f (by simp),bk:=a.own h.bk g (by simp),wd:=a.own h.wd i (by simp),rows:=h.rows.ch a j (by simp)}
theorem uV.mono{w:eI}{B:Nat}{A:fE}{c:Nat}{gC:gh}(h:uV w B A c C k gC)(a:n<=B):uV w n A c C k gC:=⟨fq h.row a,fq h.bytes a⟩
theorem Ol{e:ik}{size:Nat}(h:w.ownsRow n e size (.slice A k m) k l):k<=m:=by
 rcases h.2 with⟨a,rfl⟩|⟨b,c,d,a,_,_,f,_⟩
 ·exact eX _
 ·simp only[ml,ky] at a;omega
theorem my.TB{B:Nat}{m:Im}{a:lu}(h:my w B m a)(d:IE a):Gx w m a/\a.gy.length<=m.sc:=by
 obtain⟨k,l,c⟩:=h.FY;have n:=Rd.gY c.row;have E:m.t.bs.length=a.mU.length:=by rw[<-h.mU,gW]
 have F:=d.bl;have g:∀f∈oX m a,w.ownsRow B 3 1 f.1 f.2.length (ints f.2):=λf s=>h.rows.mem s;have t:∀b∈m.t.bs,b.In w:=λb o=>by have u:=g (b.cell,b.is) (gD _ (gD _ (fy.2 ⟨b,o,rfl⟩)));have p:=d.bf b.is (by rw[<-h.mU];exact fy.2 ⟨b,o,rfl⟩);refine⟨Rd.fC u,λv x=> ?_,by have:=p.1;omega⟩;have:=p.2 v x;unfold sM;omega
 have y:m.t.In w:=by
  refine⟨Rd.fC h.bk,t,by omega, ?_,λz r=> ?_, ?_, ?_⟩
  ·rw[h.gv];exact Rd.fC h.wd
  ·rw[h.gv] at r;exact d.wf z r
  ·rw[h.gv];have:=d.wl;omega
  ·rw[h.shift];unfold sM;decide
 have i:=g _ (gM ..);have j:=g _ (gD _ (gM ..));simp only at i j;rw[h.n11] at i;rw[h.n12] at j;exact⟨⟨⟨h.name,h.gB,h.n2,⟨k,l,.fC c.row n⟩,h.n3,.fC h.h' (Rd.gY h.h'),h.z4,h.z9,h.Sk,h.pI,h.UA,h.n11,h.n12,h.ok,h.a4⟩,
  ⟨k,l,⟨⟨h.n2,n,h.ok.QS,h.ok.QT⟩,Rd.fC c.bytes,λA C e=>(mT.fC c.bytes (Rd.fC c.bytes)).ty (λD=>by
    have G:a.gC.length=0:=by rw[<-ju,D];rfl
    have:=h.ok.QS;omega) A C e⟩⟩,h.l,vV (Rd.gY h.sy),y,h.mU,h.gv,h.shift,Rd.fC i,Rd.fC j⟩,Ol h.sy⟩
theorem my.tZ{a:Im}{b:lu}(h:my w n a b):LW w a b:=
 ⟨h.l,.fC h.sy (Rd.gY h.sy),.fC h.bk (Rd.fC h.bk),h.mU,.fC h.wd (Rd.fC h.wd),h.gv,h.shift⟩
end
end
section
open Go.RowKit Pl
section
def P6:mB:=[542,524]
def LD(w0:eI)(hi:Nat)(w:eI)(lp q:Nat)(R:gh):Prop:=eQ w lp 524 #[fw q,fz false]/\hi<=lp/\q<hi/\∃A c,RF w0 w q (0,R) A c/\∀k,As A k->k<hi
def Vw(w0:eI)(hi:Nat)(w:eI)(lp q:Nat)(R:gh)(v:eS)(e:Ending)(w':eI):Prop:=e=fH v/\LD w0 hi w' lp q R/\CH w0 P6 [] w w'
section
variable {w0 w w':eI} {hi lp q:Nat} {R:gh}
theorem LD.lF(h:LD w0 hi w lp q R):eF w0 w:=by obtain⟨_,_,_,a,b,h,_⟩:=h;exact h.ext
theorem LD.ex(h:LD w0 hi w lp q R)(a:eF w w'):LD w0 hi w' lp q R:=by obtain⟨b,c,d,f,g,h,i⟩:=h;exact⟨a.eH b,c,d,f,g,h.ex a,i⟩
theorem On{R':gh}(h:LD w0 hi w lp q R)(e:R=R'):LD w0 hi w lp q R':=e▸h
theorem LD.p(h:LD w0 hi w lp q R):w.cell? (eJ lp 0)=some (fw q):=h.1.cell 0 rfl
theorem LD.ch(h:LD w0 hi w lp q R){L:mB}(a:CH hi L [] w w')(d:524∉L)(f:w0.heap.size<=hi):LD w0 hi w' lp q R:=by obtain⟨g,i,j,k,l,h,c⟩:=h;exact⟨a.eH g d (by simp),i,j,k,l,⟨h.st.keep a (λb=>by have:=b.1;omega) (λm n b=>by have:=b.1;have:=c m n;omega),h.base,h.m9,a.lP h.ext f⟩,c⟩
theorem Oo{b:WS}{c:fE}{d:Nat}(h:RF w0 w q b c d)(f:fi (λa=>a=q) w w'):CH w0 P6 [] w w':=fi.mono f λa g=>by subst g;exact⟨h.base,.inl ⟨_,_,_,h.st.eH,by simp[P6]⟩⟩
theorem jv(a:Nat)(f:iS a=true)(b:Int)(i:iu b a=true)(j: -9223372036854775808<=b/\b<=9223372036854775807)(h:LD w0 hi w lp q (fD a b++R)):
 Calls prog 354 #[fw q,eE (a:Nat)] w (Vw w0 hi w lp q R (eE b)):=by
 obtain⟨k,l,m,n,o,d,p⟩:=h;have u:1<=a/\a<=8:=by rcases jB f with h|h|h|h<;>omega
 refine(Ew q (0,fD a b++R) n o a w d.st (by omega)).mono ?_;rintro e v ⟨rfl,r,s,c⟩;rw[vC a b R f i j] at c ⊢;exact⟨rfl,⟨c.lS.eH k (by omega),l,m,r,s,d.to c,λg t=>p g (c.m9 g t)⟩,Oo d c.lS⟩
theorem uW(a:gh)(f:a.length<=4096)(h:LD w0 hi w lp q (sP a++R)):
 Calls prog 353 #[fw q] w (Vw w0 hi w lp q R (eV (fI a))):=by obtain⟨g,i,j,k,l,c,m⟩:=h;refine(Kk q (0,sP a++R) k l w c.st).mono ?_;rintro e s ⟨rfl,n,o,b⟩;have p:od 2 4096 (0,sP a++R)=(a,(0,R)):=MZ a R f;rw[p] at b ⊢;exact⟨rfl,⟨b.lS.eH g (by omega),i,j,n,o,c.to b,λd r=>m d (b.m9 d r)⟩,Oo c b.lS⟩
def Wi(w0:eI)(hi:Nat)(w:eI)(lp q:Nat)(R s:gh)(e:Ending)(w':eI):Prop:=∃A c,e=fH (.slice A s c)/\w'.ownsRow w 5 1 (.slice A s c) s (jl s)/\LD w0 hi w' lp q R/\CH w0 P6 [] w w'
theorem EU(a:gh)(g:a.length<=1048576)(h:LD w0 hi w lp q (fD 4 a.length++a++R)):
 Calls prog 355 #[fw q] w (Wi w0 hi w lp q R a):=by obtain⟨i,j,k,l,m,c,n⟩:=h;refine(GR q (0,fD 4 a.length++a++R) l m w c.st).mono ?_;rintro e v ⟨x,o,p,rfl,d,b⟩;have r:=JV a R g;rw[r] at b d;obtain⟨s,t,rfl⟩:=eR d;exact⟨s,t,rfl,d,⟨b.lS.eH i (by omega),j,k,o,p,c.to b,λf u=>n f (b.m9 f u)⟩,Oo c b.lS⟩
theorem TC(h:LD w0 hi w lp q []):Calls prog 359 #[fw q] w λe w'=>e=fH (eE 0)/\w=w':=by obtain⟨d,f,g,a,b,c,i⟩:=h;exact Q5 q (0,[]) a b w c.st
theorem TD(a:gh)(n:a.length<=1000000)(B:fE)(c:Nat)(f:Rd w B (jl a)):Calls prog 352 #[.slice B a c] w λe w'=>
 ∃q,e=fH (fw q)/\LD w w' (w'.alloc (eN #[fw q,fz false] 524)) w' q a/\eF w w':=by refine(zV B c a w f (by omega)).mono ?_;rintro e o ⟨q,g,i,rfl,j,b,k,d⟩;have l:=RF.new (eF.refl w) b j k d;exact⟨q,rfl,⟨eQ.new _ _ _,fJ _,b.eH.lt,g,i,l.ex (eF.alloc _ _),λp m=>(b.ne m).2⟩,d⟩
theorem CL(c:Bool)(h:LD w0 hi w lp q (fD 1 (Ea c)++R))(g:w0.heap.size<=hi):Calls prog 357 #[fw lp] w (Vw w0 hi w lp q R (fz c)):=by
 have i:=eD (jv 1 rfl (Ea c) (by cases c<;>rfl) (by cases c<;>decide) h);have m:=h.p;clear h;go_in;go_wp2_with fail
 refine i.mono ?_;rintro e d ⟨rfl,a,j⟩;clear m i;have x:=a.1.ce 1 (fz false);have f1:=a.1.frozen 1;have b:CH hi [524] [] d (d.setCell (eJ lp 1) (fz false)):=CH.set a.1 a.2.1 (by simp) 1 _;have k:eQ (d.setCell (eJ lp 1) (fz false)) lp 524 #[fw q,fz false]:=a.1.set 1 _;have n:Hid (LD w0 hi (d.setCell (eJ lp 1) (fz false)) lp q R):=eD (by obtain⟨y,o,p,r,s,f,l⟩:=a;exact⟨k,o,p,r,s,⟨f.st.keep b (λb=>by have:=b.1;omega) (λt u b=>by have:=b.1;have:=l t u;omega),f.base,f.m9,b.lP f.ext g⟩,l⟩)
 have v:Hid (CH w0 P6 [] w (d.setCell (eJ lp 1) (fz false))):=eD (j.fk (CH.set a.1 (eY g a.2.1) (by simp[P6]) 1 _));clear a j b k;cases c;all_goals
  simp only[Ea];go_wp2;go_ret;exact⟨rfl,n,v⟩
def Oq(w0:eI)(hi:Nat)(w:eI)(lp q:Nat)(R:gh)(ns:fS)(e:Ending)(w':eI):Prop:=∃v,e=fH v/\w'.ownsRow w 3 1 v ns (ints ns)/\LD w0 hi w' lp q R/\CH w0 P6 [] w w'
theorem KV(c:Nat)(a:fS){b:Nat}(h:b<a.length)(R:gh):kL c (a.drop b)++R=fD c a[b]++(kL c (a.drop (b+1))++R):=by rw[sN h,AR,iK]
theorem zc(c:Nat)(t:iS c=true)(a:fS)(u:∀i∈a,iu i c=true)(v:∀i∈a, -9223372036854775808<=i/\i<=9223372036854775807)(U:a.length<=1000)(h:LD w0 hi w lp q (kL c a++R))(F:w0.heap.size<=hi)(G:hi<=w.heap.size):
 Calls prog 358 #[fw lp,eE a.length,eE (c:Nat)] w (Oq w0 hi w lp q R a):=by
 have H:=eD u;have I:=eD v;have J:=eD t;have x:=eD h;clear u v t h;go_in;go_wp2;go_loopw [9,7] (λd r wr=>∃(b:Nat) (j:eS),b<=a.length/\d=eE b/\j=r/\wr.ownsRow w 3 1 j b (ints (a.take b))/\LD w0 hi wr lp q (kL c (a.drop b)++R)/\CH w0 P6 [] w wr) (λd _ _=>a.length- (intOf d).toNat)
 case atStart=>exact⟨0,_,eX _,rfl,rfl,ji _ _ _ _,x,CH.refl _ _ _ _⟩
 case round=>
  obtain⟨b,j,V,rfl,rfl,k,f,l⟩:=hrel;clear x;by_cases m:b<a.length
  ·have y:=On f (KV c a m R);have z:=eD (jv c J a[b] (H _ (eU m)) (I _ (eU m)) y);have K:=f.p;have M:Hid (ints (a.take (b+1))=ints (a.take b)++[.int .i64 a[b]]):=eD (by rw[iz m,mI];rfl);have n:=eD k;have g:=eD l;clear f y k l;generalize a[b]=r at*;go_wp2_with fail
   refine z.mono ?_;rintro e W ⟨rfl,A,o⟩;have N:=(g.fk o).size;have p:=eD (o.own n);have B:=eD (g.fk o);have C:=eD A;clear K A o z n g;go_wp2_with (at_builtin;go_loud(refine jQ rfl _ _ rfl p N rfl [eE r] rfl rfl (by simp[Value.oneCell']) (by omega) ?_))
   intro O D E s _;have P:Hid (CH w0 P6 [] w D):=eD (fi.trans (B.ext (eF.alloc _ _)) (fi.grown s) λd hi=>.inr (p.lt d hi.symm).1);have Q:=eD (C.ch (L:=[3]) (CH.fk (CH.fg (eF.alloc _ _)) (CH.grown s (fq ((eF.alloc _ _).own p) G) (by simp))) (by decide) F);have S:Hid (D.ownsRow w 3 1 O (b+1) (ints (a.take (b+1)))):=eD (by rw[M];exact E);clear E s p C B;go_wp2;go_roundw
   case rel=>exact⟨b+1,_,by omega,by go_num,rfl,S,Q,P⟩
   case measure=>simp[intOf];omega
  ·obtain rfl:b=a.length:=by omega
   have n:Hid (wr.ownsRow w 3 1 j a.length (ints a)):=eD (by simpa using k);have T:Hid (LD w0 hi wr lp q R):=eD (On f (by simp[kL]));have g:=eD l;clear k f l;go_wp2;go_ret;exact⟨_,rfl,n,T,g⟩
theorem ze(lp:Nat)(w:eI):Calls prog 356 #[fw lp,eE 0] w λe w'=>e=fH (eW)/\w=w':=by go_in;go_wp2;refine wp_loop_rounds 1 ?_;rw[rounds_succ];go_wp2;go_ret;exact⟨rfl,rfl⟩
end
end
end
section
variable{w v u W V U:eI}{n k m i j p b c d g N B K G M:Nat}{x y z X Y Z:eS}{D E F:Int}{A C H I:fE}{l L J T:fY}{r s t R S:fe}{f:ik}{a:Act}{O P Q:List Oper}{kE:Oper}{kG:Array Oper}{kM kN:fS}{kR:gh}
section
open Go.RowKit
theorem Aa:(prog.info? 155).map (λa=>(a.zero,a.size,a.bytes))=some (some (.agg #[.int .i64 0,.int .i64 0,.int .i64 0]),3,24):=by kernel_rfl
theorem Pr{rest:List Oper}{o:Exit->Act->eI->Prop}(r:kE.guard=none)(i j:Operand)(s:kE.op=.call {callee:=.builtin .append,args:=#[i,j],argTypes:=#[36,36]}){b:eS}{f:Nat}{k:fY}(h:w.ownsRow n 155 3 b f k)(t:n<=w.heap.size)(u:a.eval i=b)(l:fE)(p:Nat)(c:fY)(d:Nat)(v:a.eval j=.slice l d p)(x:c.length=d*3)(y:Rd w l c)(z:∀A∈c,A.oneCell'=true)(H:f+d<=1000000)(B:∀g m,m.ownsRow n 155 3 g (f+d) (k++c)->w.grownBy m b.ownBlock->(g.ownBlock=b.ownBlock\/g.ownBlock=some w.heap.size)->wpList prog kG o rest (a.put kE.dst g) m):wpList prog kG o (kE::rest) a w:=by obtain⟨C,D,E,F,G⟩:=info_parts Aa;exact fB r i j 36 s n 155 C _ 3 24 underlying36 D E F G rfl (by omega) b f k u h l p c d v x y z (by unfold maxLen;omega) (by omega) t B
theorem Lp{rest:List Oper}{o:Exit->Act->eI->Prop}(r:kE.guard=none)(j k:Operand)(s:kE.op=.call {callee:=.builtin .append,args:=#[j,k],argTypes:=#[36,36]}){g:eS}{l:Nat}{p:fY}(h:w.ownsRow n 155 3 g l p)(C:n<=w.heap.size)(t:a.eval j=g)(b:fY)(u:a.eval k=fN w 1 1)(v:b.length=3)(x:∀y∈b,y.oneCell'=true)(D:l<1000000)(z:∀c d,d.ownsRow n 155 3 c (l+1) (p++b)->(w.alloc (eN b.toArray 155)).grownBy d g.ownBlock->(∀i,c.ownBlock=some i->g.ownBlock=some i\/w.heap.size<=i)->wpList prog kG o rest (a.put kE.dst c) d):wpList prog kG o (kE::rest) a (w.alloc (eN b.toArray 155)):=
 Pr r j k s ((eF.alloc _ _).own h) (by rw[fM];omega) t _ 1 b 1 u (by simpa using v) (by simpa using ip w b.toArray _) x (by omega) λc d A B f=>z c d A B λi m=>by
  rcases f with f|f
  ·exact .inl (f▸m)
  ·rw[f] at m;simp only[fM,fd] at m;exact .inr (by omega)
theorem j1{b:Obj}{c:Option Nat}(a:(w.alloc b).grownBy v c):w.grownBy v c:=
 ⟨a.os,a.tape,a.output,eY (eF.alloc w b).size a.size,λd f g=>(a.block d (nX f (eF.alloc w b).size) g).trans ((eF.alloc w b).below.block d f)⟩
def Rg.yY(r:Rg):fY:=[eE r.at_,eE r.bs.length,eE r.iU]
abbrev zt(rs:List Rg):fY:=fO Rg.yY rs
def I9(w:eI)(rs:List Rg)(e:Ending)(w':eI):Prop:=∃A c,e=fH (.slice A rs c)/\w'.ownsRow w 155 3 (.slice A rs c) rs (zt rs)/\eF w w'
theorem Fs{a:List Rg}(h:j' w n k a x):
 Calls prog 20 #[fw k] w (I9 w a):=by
 obtain⟨y,z,rfl⟩:=h.slice;have A:=eD h;have K:=h.iO;have L:=h.eH.ce 0 (.slice y a.length z);clear h;go_in;go_wp2;go_loopw [11,3] (λj B wr=>∃b d f,b<=a.length/\j=eE b/\B=.slice d b f/\wr.ownsRow w 155 3 (.slice d b f) b (zt (a.take b))/\eF w wr) (λj _ _=>a.length- (intOf j).toNat)
 case atStart=>exact⟨0,none,0,eX _,rfl,rfl,⟨rfl,.inl ⟨rfl,rfl⟩⟩,eF.refl _⟩
 case round=>
  obtain⟨b,d,f,M,rfl,rfl,g,c⟩:=hrel;by_cases o:b<a.length
  ·obtain⟨N,O,p,_,P,_,d0,d1,d2,d3⟩:=(A.ext c).at o;simp only[ml,ky] at p;obtain⟨rfl,rfl⟩:=p;have r:zt (a.take (b+1))=zt (a.take b)++Rg.yY a[b]:=by rw[iz o,zt,hZ];simp[fO]
   have s:=eD r;have l:=eD g;have t:=eD c;have C:=c.size;unfold Rg.yY at s;clear r g c;generalize a[b]=m at*;go_wp2_with (at_builtin;go_loud(refine Lp rfl _ _ rfl ((eF.alloc _ _).own l) (eY C (by rw[fM];omega)) rfl [eE m.at_,eE m.bs.length,eE m.iU] (by rw[fM];rfl) rfl (by simp[Value.oneCell']) (by omega) ?_))
   intro Q R i u _;obtain⟨D,E,rfl⟩:=eR i;rw[<-s] at i;have v:=(fi.grown (j1 (j1 u))).ext t (λF G=>(l.lt F G.symm).1);have H:=eD i;have I:=eD v;clear i u v l t;go_wp2;go_roundw
   case rel=>exact⟨b+1,D,E,by omega,by go_num,rfl,H,I⟩
   case measure=>simp[intOf];omega
  ·obtain rfl:b=a.length:=by omega
   rw[iT] at g;have J:Hid (I9 w a (fH (.slice d a.length f)) wr):=eD ⟨d,f,rfl,g,c⟩;clear g c;go_wp2;go_ret;exact J
theorem zu:(prog.info? 71).map (λa=>(a.zero,a.size,a.bytes))=some (some (.agg #[.int .i64 0,.int .i64 0,.slice none 0 0,.slice none 0 0,.int .i64 0,.int .i64 0,.int .i64 0,.int .i64 0,.int .i64 0,.string ByteArray.empty,.int .i64 0,.string ByteArray.empty,.int .i64 0]),13,152):=by kernel_rfl
theorem Lq{rest:List Oper}{o:Exit->Act->eI->Prop}(r:kE.guard=none)(i j:Operand)(s:kE.op=.call {callee:=.builtin .append,args:=#[i,j],argTypes:=#[58,58]}){b:eS}{f:Nat}{k:fY}(h:w.ownsRow n 71 13 b f k)(t:n<=w.heap.size)(u:a.eval i=b)(l:fE)(p:Nat)(c:fY)(d:Nat)(v:a.eval j=.slice l d p)(x:c.length=d*13)(y:Rd w l c)(z:∀A∈c,A.oneCell'=true)(H:f+d<=1000000)(B:∀g m,m.ownsRow n 71 13 g (f+d) (k++c)->w.grownBy m b.ownBlock->(g.ownBlock=b.ownBlock\/g.ownBlock=some w.heap.size)->wpList prog kG o rest (a.put kE.dst g) m):wpList prog kG o (kE::rest) a w:=by obtain⟨C,D,E,F,G⟩:=info_parts zu;exact fB r i j 58 s n 71 C _ 13 152 underlying58 D E F G rfl (by omega) b f k u h l p c d v x y z (by unfold maxLen;omega) (by omega) t B
theorem Hf{rest:List Oper}{o:Exit->Act->eI->Prop}(r:kE.guard=none)(j k:Operand)(s:kE.op=.call {callee:=.builtin .append,args:=#[j,k],argTypes:=#[58,58]}){g:eS}{l:Nat}{p:fY}(h:w.ownsRow n 71 13 g l p)(C:n<=w.heap.size)(t:a.eval j=g)(b:fY)(u:a.eval k=fN w 1 1)(v:b.length=13)(x:∀y∈b,y.oneCell'=true)(D:l<1000000)(z:∀c d,d.ownsRow n 71 13 c (l+1) (p++b)->(w.alloc (eN b.toArray 71)).grownBy d g.ownBlock->(∀i,c.ownBlock=some i->g.ownBlock=some i\/w.heap.size<=i)->wpList prog kG o rest (a.put kE.dst c) d):wpList prog kG o (kE::rest) a (w.alloc (eN b.toArray 71)):=
 Lq r j k s ((eF.alloc _ _).own h) (by rw[fM];omega) t _ 1 b 1 u (by simpa using v) (by simpa using ip w b.toArray _) x (by omega) λc d A B f=>z c d A B λi m=>by
  rcases f with f|f
  ·exact .inl (f▸m)
  ·rw[f] at m;simp only[fM,fd] at m;exact .inr (by omega)
def Kp(w w':eI):Prop:=w.heap.size<=w'.heap.size/\(∀base v n xs,w.ownsRow base 71 13 v n xs->w'.ownsRow base 71 13 v n xs)/\∀base v n xs,w.ownsRow base 63 7 v n xs->w'.ownsRow base 63 7 v n xs
structure Tv where
 l:fY
 len:l.length=13
 one:∀u∈l,u.oneCell'=true
structure Av where
 l:fY
 len:l.length=7
 one:∀u∈l,u.oneCell'=true
def Ft(w:eI)(n:Nat)(I:Nat->List Tv->eI->Prop)(e:Ending)(w':eI):Prop:=∃A c ts,e=fH (.slice A n c)/\ts.length=n/\w'.ownsRow w 71 13 (.slice A n c) n (fO Tv.l ts)/\I n ts w'
theorem Fu(a:List Av)(A:fE)(y E:Nat)(b:eI)(hn:a.length<=1000)(F:b.ownsRow 0 63 7 (.slice A a y) a (fO Av.l a))(d:Nat->List Tv->eI->Prop)(G:d 0 [] b)(H:∀k l f g,d k l f->CH b [71] [] f g->d k l g)(I:∀k (hk:k<a.length) l f,d k l f->Calls prog 15 #[fw E,fV a[k].l.toArray] f λe g=>∃p:Tv,e=fH (fV p.l.toArray)/\d (k+1) (l++[p]) g/\Kp f g):
 Calls prog 11 #[fw E,.slice A a y] b (Ft b a d):=by
 have J:=eD H;have ak:=eD I;have HR:=eD F;have K:=eD G;clear H I F G;go_in;go_wp2;go_loopw [10,5] (λz v5 wr=>∃k i j c,k<=a.length/\z=eE k/\v5=.slice i k j/\c.length=k/\wr.ownsRow b 71 13 (.slice i k j) k (fO Tv.l c)/\wr.ownsRow 0 63 7 (.slice A a.length y) a.length (fO Av.l a)/\d k c wr/\b.heap.size<=wr.heap.size) (λz _ _=>a.length- (intOf z).toNat)
 case atStart=>exact⟨0,none,0,[],eX _,rfl,rfl,rfl,⟨rfl,.inl ⟨rfl,rfl⟩⟩,HR,K,fJ _⟩
 case round=>
  obtain⟨k,i,j,c,hk,rfl,rfl,B,r,s,t,aA⟩:=hrel;by_cases L:k<a.length
  ·obtain⟨M,al,hA,aB,N⟩:=ut (λam:Av=>am.len) (Rd.gY s) L (by decide);have O:=eD (λw' hI=>ak k L c w' hI);subst hA;generalize a[k]=av at*;obtain⟨l,u,an⟩:=av;have Q:(loadVar 63 (eJ M (al+k*7))).run prog wr=.ok (fV l.toArray) wr:=by refine jo wr M _ 63 l _ (λao hj=> ?_) underlying63 rfl (by rw[u];kernel_rfl);rw[qX];exact N ao _ (gg hj)
   have R:=eQ.new wr 63 #[eE 0,eV ByteArray.empty,eV ByteArray.empty,eW,eE 0,eE 0,eE 0];have S:=eD Q;have T:=eD t;have U:=eD r;have V:=eD s;have ap:=eD B;clear N r s t K B Q;go_wp2_with (first|(refine eK rfl 63 (.tmp 12) rfl _ rfl (fV l.toArray) S ?_)|(refine eG rfl 63 (.tmp 7) (.tmp 13) rfl wr rfl l rfl R an (by rw[u];kernel_rfl) (by rw[u];rfl) ?_))
   intro f W X;have m:=(fi.grown X).ext (eF.alloc _ _);have Y:=eD (J k c wr f T (CH.fg m));have Z:=eD (W.fK (P:=prog) 63 _ underlying63 rfl (by rw[u];kernel_rfl));have ad:=eD (m.own U);have ae:=eD (m.own V);have aC:=m.size;clear R W X m S U V T;go_wp2_with (refine eK rfl 63 (.tmp 7) rfl _ rfl (fV l.toArray) Z ?_)
   refine(O _ Y).mono ?_;rintro e g ⟨p,rfl,af,v⟩;have ag:=eD af;have C:=eD (v.2.1 _ _ _ _ ad);have ah:=eD (v.2.2 _ _ _ _ ae);have ai:b.heap.size<=g.heap.size:=by have:=v.1;omega
   obtain⟨n,o,w⟩:=p;clear af v O Y ad ae Z;go_wp2_with (first|(refine jF rfl 58 71 (.tmp 17) rfl n 13 rfl underlying58 (by kernel_rfl) o (by decide) ?_)|(at_builtin;go_loud(refine Hf rfl _ _ rfl C ai rfl n rfl o w (by omega) ?_)))
   intro v4 w4 D g4 _;obtain⟨A4,c4,rfl⟩:=eR D;have g5:=j1 g4;have x:CH b [71] [] g w4:=CH.grown g5 C (by simp);have aq:=eD (J _ _ _ _ ag x);have ar:=eD (x.own ah);have aj:w4.ownsRow b 71 13 (.slice A4 (k+1) c4) (k+1) (fO Tv.l (c++[⟨n,o,w⟩])):=by rw[hZ];simpa[fO] using D
   have au:=eD aj;have aw:=eY ai x.size;have ax:Hid ((c++[(⟨n,o,w⟩:Tv)]).length=k+1):=eD (by rw[fT,ap.out];rfl);clear D g4 g5 x aj ag C ah;generalize c++[(⟨n,o,w⟩:Tv)]=ay at*;go_wp2;go_roundw
   case rel=>exact⟨k+1,A4,c4,ay,by omega,by go_num,rfl,ax,au,ar,aq,aw⟩
   case measure=>simp[intOf];omega
  ·obtain rfl:k=a.length:=by omega
   have az:Hid (Ft b a.length d (fH (.slice i a.length j)) wr):=eD ⟨i,j,c,rfl,B,r,t⟩;clear r s t;go_wp2;go_ret;exact az
theorem Ae:(prog.info? 61).map (λa=>(a.zero,a.size,a.bytes))=some (some (.slice none 0 0),1,24):=by kernel_rfl
theorem PN{rest:List Oper}{o:Exit->Act->eI->Prop}(r:kE.guard=none)(i j:Operand)(s:kE.op=.call {callee:=.builtin .append,args:=#[i,j],argTypes:=#[37,37]}){b:eS}{f:Nat}{k:fY}(h:w.ownsRow n 61 1 b f k)(t:n<=w.heap.size)(u:a.eval i=b)(l:fE)(p:Nat)(c:fY)(d:Nat)(v:a.eval j=.slice l d p)(x:c.length=d*1)(y:Rd w l c)(z:∀A∈c,A.oneCell'=true)(H:f+d<=1000000)(B:∀g m,m.ownsRow n 61 1 g (f+d) (k++c)->w.grownBy m b.ownBlock->(g.ownBlock=b.ownBlock\/g.ownBlock=some w.heap.size)->wpList prog kG o rest (a.put kE.dst g) m):wpList prog kG o (kE::rest) a w:=by obtain⟨C,D,E,F,G⟩:=info_parts Ae;exact fB r i j 37 s n 61 C _ 1 24 underlying37 D E F G rfl (by omega) b f k u h l p c d v x y z (by unfold maxLen;omega) (by omega) t B
theorem LC{rest:List Oper}{o:Exit->Act->eI->Prop}(r:kE.guard=none)(j k:Operand)(s:kE.op=.call {callee:=.builtin .append,args:=#[j,k],argTypes:=#[37,37]}){g:eS}{l:Nat}{p:fY}(h:w.ownsRow n 61 1 g l p)(C:n<=w.heap.size)(t:a.eval j=g)(b:fY)(u:a.eval k=fN w 1 1)(v:b.length=1)(x:∀y∈b,y.oneCell'=true)(D:l<1000000)(z:∀c d,d.ownsRow n 61 1 c (l+1) (p++b)->(w.alloc (eN b.toArray 61)).grownBy d g.ownBlock->(∀i,c.ownBlock=some i->g.ownBlock=some i\/w.heap.size<=i)->wpList prog kG o rest (a.put kE.dst c) d):wpList prog kG o (kE::rest) a (w.alloc (eN b.toArray 61)):=
 PN r j k s ((eF.alloc _ _).own h) (by rw[fM];omega) t _ 1 b 1 u (by simpa using v) (by simpa using ip w b.toArray _) x (by omega) λc d A B f=>z c d A B λi m=>by
  rcases f with f|f
  ·exact .inl (f▸m)
  ·rw[f] at m;simp only[fM,fd] at m;exact .inr (by omega)
def FE(w:eI)(n:Nat)(e:Ending)(w':eI):Prop:=∃A c,e=fH (.slice A n c)/\eF w w'
theorem sB.T2{a:List Rg}(h:sB a){b:Nat}(d:b<a.length)(k:a[b].bs.length<=1048576)(i:oR a[b].iU 0):jK a b a[b] a[b].at_ a[b].bs.length 0:=by
 refine⟨gg d,JC _, ?_,by omega,JC _,i,λf j l c=> ?_⟩
 ·have:=(h.ok _ (eU d)).2.2.1;omega
 ·have g:f<a.length:=by omega
  rw[gg g] at c;injection c with c
  subst c;have:=jJ.1 h.pw f b g d j;unfold Rg.ka at this;exact .inr this
theorem Wp{g:Type}{f:g->fY}{d:List g}(l:∀m,(f m).length=3)(h:Rd w A (fO f d))(o:n<d.length){i j k:eS}(e:f d[n]=[i,j,k]):
 ∃a b,A=some (eJ a b)/\a<w.heap.size/\w.cell? (eJ a (b+n*3))=some i/\w.cell? (eJ a (b+n*3+1))=some j/\w.cell? (eJ a (b+n*3+2))=some k:=by obtain⟨a,b,p,r,c⟩:=ut l h o (by decide);rw[e] at c;exact⟨a,b,p,r,by have:=c 0 _ rfl;simpa using this,by have:=c 1 _ rfl;rwa [<-qX] at this,by have:=c 2 _ rfl;rwa [<-qX] at this⟩
theorem LG{a:List Rg}(h:j' w n k a x)(u:sB a)(i:∀g∈a,g.bs.length<=1048576/\oR g.iU 0){A:fE}{c:Nat}(v:w.ownsRow 0 155 3 (.slice A a c) a (zt a)):
 Calls prog 23 #[fw k,.slice A a c] w (FE w a):=by
 have ad:=h.iO;have L:=eD (λj (d:eF w j) (b:Nat) (l:b<a.length)=>MK n k a x a[b].at_ a[b].bs.length b a[b] j (h.ext d) (u.T2 l (i _ (eU l)).1 (i _ (eU l)).2));have M:=eD (Rd.gY v);clear h u i v;go_in;go_wp2;go_loopw [12,5] (λm N wr=>∃b A c y,b<=a.length/\m=eE b/\N=.slice A b c/\wr.ownsRow w 61 1 (.slice A b c) b y/\eF w wr) (λm _ _=>a.length- (intOf m).toNat)
 case atStart=>exact⟨0,none,0,[],eX _,rfl,rfl,⟨rfl,.inl ⟨rfl,rfl⟩⟩,eF.refl _⟩
 case round=>
  obtain⟨b,z,B,y,l,rfl,rfl,o,d⟩:=hrel;by_cases C:b<a.length
  ·obtain⟨D,ae,O,af,d0,d1,d2⟩:=Wp (λg=>rfl) (d.rd M) C (f:=Rg.yY) rfl;subst O;have E:=eD o;have F:=eD d;have G:=λj (P:eF wr j)=>L j (d.trans P) b C;generalize a[b]=g at*;generalize g.cut g.at_ g.bs.length=Q at*;have H:=eD G;clear o d G;go_wp2_with fail
   refine(H _ (eF.alloc _ _)).mono ?_;rintro e w2 ⟨R,S,rfl,T,I⟩;have p:=(eF.alloc wr _).trans I;have r:=eD (p.own E);have s:=eD (F.trans p);have U:=s.size;clear T I p H d0 d1 d2 E F;go_wp2_with (at_builtin;go_loud(refine LC rfl _ _ rfl r U rfl [fN R Q.length S] rfl rfl (by simp[Value.oneCell']) (by omega) ?_))
   intro v4 w4 t J _;obtain⟨V,W,rfl⟩:=eR t;have K:=(fi.grown (j1 J)).ext s (λD i=>(r.lt D i.symm).1);have X:=eD t;have Y:=eD K;clear t J K r s;go_wp2;go_roundw
   case rel=>exact⟨b+1,V,W,_,by omega,by go_num,rfl,X,Y⟩
   case measure=>simp[intOf];omega
  ·obtain rfl:b=a.length:=by omega
   have Z:Hid (FE w a.length (fH (.slice z a.length B)) wr):=eD ⟨z,B,rfl,d⟩;clear o d;go_wp2;go_ret;exact Z
theorem BU(a out:fe){b:Nat}(c:b<a.length):jN (a.take (b+1)) out=if a[b]∈jN (a.take b) out then jN (a.take b) out else jN (a.take b) out++[a[b]]:=jR _ a out c
def Jg(es:List Ed)(roots:fe)(w:eI)(e:Ending)(w':eI):Prop:=∃st,(∀x,x∈st↔∃r,r∈roots/\RT (mQ es) r x)/\st.length<=100/\pu w st e w'
theorem FQ{b:List Ed}(c:yR b){a out:fe}(d:(jN a out).Nodup)(f:∀g∈jN a out,g<b.length):(jN a out).length<=100:=eY (iM _ d f) c.iO
theorem OR.LN{n:Nat}{v:eS}{xs:fY}{a:Obj}(h:OR w u 3 1 v n xs)(b:W.ownsRow w.heap.size 3 1 x (n+1) (xs++[.int .i64 D]))(g:(u.alloc a).grownBy W v.ownBlock):OR w W 3 1 x (n+1) (xs++[.int .i64 D]):=
 ⟨b,(fi.grown (j1 g)).ext h.ext λc d=>(h.own.lt c d.symm).1⟩
theorem qh(l:fe)(a:Nat):ints (eM (l++[a]))=ints (eM l)++[.int .i64 (a:Nat)]:=by simp[ints,eM]
theorem FR(m:List Ed)(M:yR m)(U:fE)(c:Nat)(a:fe)(V:∀aj∈a,aj<m.length)(ar:a.length<=100)(W:fE)(rc:Nat)(s:eI)(X:nF s U m)(Y:Rd s W (ints (eM a))):
 Calls prog 16 #[.slice U m c,.slice W a rc] s (Jg m a s):=by
 have Z:=eD X;have HR:=eD Y;have I:=eD M;have HL:=eD V;have au:=M.iO;clear X Y M V;go_in;go_wp2;go_loopw [13,5] (λn v wr=>∃(b:Nat) (i:fE) (j:Nat),b<=a.length/\n=eE b/\v=.slice i (jN (a.take b) []).length j/\OR s wr 3 1 v (jN (a.take b) []).length (ints (eM (jN (a.take b) [])))) (λn _ _=>a.length- (intOf n).toNat)
 case atStart=>exact⟨0,none,0,eX _,rfl,rfl,OR.nil (eF.refl _) _ _⟩
 case round=>
  obtain⟨b,i,j,hk,rfl,rfl,f⟩:=hrel;have t:=eD f;by_cases w:b<a.length
  ·obtain⟨ad,ae,rfl,A,d0⟩:=ja (f.ext.rd HR) w;have u:=eD (BU a [] w);have ak:(jN (a.take b) []).length<=100:=FQ I (me _ _ (by simp)) (xk _ _ (λd x=>HL d (qT x)) (by simp));generalize a[b]=d at*;generalize jN (a.take b) []=out at*;have o:=eD (xg i out.length j (eM out) d wr (f.rd rfl) (by rw[fv]) (by omega));rw[oK] at o;clear f A;by_cases k:d∈out
   ·rw[jU k] at o;have p:Hid (jN (a.take (b+1)) []=out):=eD (by rw[u,fW k]);clear k u;go_wp2_with fail
    refine o.mono ?_;rintro e N ⟨rfl,rfl⟩;go_wp2;go_roundw
    case rel=>exact⟨b+1,i,j,by omega,by go_num,by rw[p],by rw[p];exact t⟩
    case measure=>simp[intOf];omega
   ·rw[kD k] at o;have p:Hid (jN (a.take (b+1)) []=out++[d]):=eD (by rw[u,fG k]);clear k u;go_wp2_with fail
    refine o.mono ?_;rintro e N ⟨rfl,rfl⟩;have O:=t.ext.size;go_wp2_with (at_builtin;go_loud(refine jQ rfl _ _ rfl t.own O rfl [eE (d:Nat)] rfl rfl (by simp[Value.oneCell']) (by omega) ?_))
    intro v7 P B C _;have y:=t.LN B C;obtain⟨D,E,rfl⟩:=y.mb;have Q:Hid (OR s P 3 1 (.slice D (out++[d]).length E) (out++[d]).length (ints (eM (out++[d])))):=eD (by rw[qh,fT];exact y);have F:Hid (out.length+1=(out++[d]).length):=eD (by simp);clear B C y t;generalize out++[d]=av at*;go_wp2;go_roundw
    case rel=>exact⟨b+1,D,E,by omega,by go_num,by rw[p,F],by rw[p,F];exact Q⟩
    case measure=>simp[intOf];omega
  ·obtain rfl:b=a.length:=by omega
   rw[iT] at*;have HB:=eD (C'.start (mQ m) a);have G:=eD (xk a [] HL (by simp));have H:=eD (me a [] (by simp));clear f;generalize jN a []=o1 at*;go_wp2;generalize wr=wa at*;go_loopw [8,5] (λn v wr=>∃(b:Nat) (out:fe) (i:fE) (j:Nat),b<=out.length/\n=eE b/\v=.slice i out.length j/\OR s wr 3 1 v out.length (ints (eM out))/\C' (mQ m) a out b/\(∀d∈out,d<m.length)/\out.Nodup) (λn _ _=>m.length- (intOf n).toNat)
   case atStart=>exact⟨0,o1,i,j,eX _,rfl,rfl,t,HB,G,H⟩
   case round=>
    obtain⟨b,out,uA,uc,hk,rfl,rfl,f,J,w,K⟩:=hrel;have aw:=iM out K w;clear t HB G H;by_cases R:b<out.length
    ·obtain⟨ad,ae,rfl,A,d0⟩:=ja (f.rd rfl) R;have x:=w _ (eU R);have S:=eD (J.step R);have t:=eD f;have G:=eD w;have H:=eD K;generalize out[b]=d at*;obtain⟨be,oe,rfl,al,af,am⟩:=(Z.ext f.ext).at x;have HG:=vR x;have L:=I.up d;have ag:=I.Bj d;rw[HG] at S L ag;have T:=Z.each _ (eU x);generalize m[d]=en at*;obtain⟨eA,ec,el⟩:=en;simp only[Ed.cell] at af T L ag S;have an:=eD T;have ah:Hid (∀l∈el,l<m.length):=eD (λl hz=>by have:=(L l hz).2;omega);clear f J w K am T L HG al A;go_wp2;generalize wr=wb at*;go_loopw [40,5] (λn v wr=>∃(g:Nat) (i:fE) (j:Nat),g<=el.length/\n=eE g/\v=.slice i (jN (el.take g) out).length j/\OR s wr 3 1 v (jN (el.take g) out).length (ints (eM (jN (el.take g) out)))) (λn _ _=>el.length- (intOf n).toNat)
     case atStart=>exact⟨0,_,_,eX _,rfl,rfl,t⟩
     case round=>
      obtain⟨g,i,j,hj,rfl,rfl,f⟩:=hrel;have z:=eD f;clear d0 af;by_cases ai:g<el.length
      ·obtain⟨ad,ae,rfl,A,d1⟩:=ja (f.ext.rd an) ai;have u:=eD (BU el out ai);have ak:(jN (el.take g) out).length<=100:=FQ I (me _ _ H) (xk _ _ (λd x=>ah d (qT x)) G);generalize el[g]=l at*;generalize jN (el.take g) out=r at*;have o:=eD (xg i r.length j (eM r) l wr (f.rd rfl) (by rw[fv]) (by omega));rw[oK] at o;clear f A;by_cases k:l∈r
       ·rw[jU k] at o;have p:Hid (jN (el.take (g+1)) out=r):=eD (by rw[u,fW k]);clear k u;go_wp2_with fail
        refine o.mono ?_;rintro e N ⟨rfl,rfl⟩;go_wp2;go_roundw
        case rel=>exact⟨g+1,i,j,by omega,by go_num,by rw[p],by rw[p];exact z⟩
        case measure=>simp[intOf];omega
       ·rw[kD k] at o;have p:Hid (jN (el.take (g+1)) out=r++[l]):=eD (by rw[u,fG k]);clear k u;go_wp2_with fail
        refine o.mono ?_;rintro e N ⟨rfl,rfl⟩;have O:=z.ext.size;go_wp2_with (at_builtin;go_loud(refine jQ rfl _ _ rfl z.own O rfl [eE (l:Nat)] rfl rfl (by simp[Value.oneCell']) (by omega) ?_))
        intro v7 P B C _;have y:=z.LN B C;obtain⟨D,E,rfl⟩:=y.mb;have Q:Hid (OR s P 3 1 (.slice D (r++[l]).length E) (r++[l]).length (ints (eM (r++[l])))):=eD (by rw[qh,fT];exact y);have F:Hid (r.length+1=(r++[l]).length):=eD (by simp);clear B C y z;generalize r++[l]=o3 at*;go_wp2;go_roundw
        case rel=>exact⟨g+1,D,E,by omega,by go_num,by rw[p,F],by rw[p,F];exact Q⟩
        case measure=>simp[intOf];omega
      ·obtain rfl:g=el.length:=by omega
       rw[iT] at*;have ao:=eD (me el out H);have ap:=eD (xk el out ah G);have ax:out.length<=(jN el out).length:=by obtain⟨ay,ht⟩:=uD el out;rw[ht];simp
       clear f;generalize jN el out=o3 at*;go_wp2;go_roundw
       case rel=>exact⟨b+1,o3,i,j,by omega,by go_num,rfl,z,S,ap,ao⟩
       case measure=>simp[intOf];omega
    ·obtain rfl:b=out.length:=by omega
     have aq:Hid (Jg m a s (fH (.slice uA out.length uc)) wr):=eD ⟨out,λd=>J.mem (fJ _) d,by omega,_,rfl,f.own,f.ext⟩;clear f J w K;go_wp2;go_ret;exact aq
