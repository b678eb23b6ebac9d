/- Part 11. -/
import Derived.Test.YtbikgdhbiebhcaaGreatDoorV10
set_option linter.unusedVariables false
set_option linter.unusedSimpArgs false
set_option maxRecDepth 100000
set_option maxHeartbeats 2000000
open Go.Value renaming int -> V, string -> U, slice -> Y, pointer -> Z, func -> φ, agg -> γ, bool -> β
open Go.IntKind renaming i64 -> I
open Option renaming some -> W, none -> O
open Go.Obj renaming cells -> J
open Go.Ending renaming returned -> ρ
open Go.Proofs.Tryz renaming prog -> π
open Nat renaming le_refl -> η
open And renaming intro -> θ
open Go.RowKit.Below renaming refl -> ζ
namespace Go.Proofs.YtbikgdhbiebhcaaGreatDoor
open Go.RowKit Tryz
theorem fh{a c:Tp.B}(b:xR a=xR c):a=c:=by
 unfold xR at b;injection b with b;injection b with b
 simpa using congrArg Array.toList b
def yf:List Tp.Nd->List (Value × Value)->List Value
 |x::r,p::s=>[V I x.k,V I x.x.k,V I x.x.n,xR x.x.s,p.1,p.2]++yf r s
 |_,_=>[]
theorem dN:∀(l:List Tp.Nd) (a:List (Value × Value)) (x:Tp.Nd) (p:Value × Value),a.length=l.length->yf (l++[x]) (a++[p])=yf l a++[V I x.k,V I x.x.k,V I x.x.n,xR x.x.s,p.1,p.2]
 | [],[],x,p,_=>rfl
 | [],q::s,x,p,h=>by simp at h
 |y::r,[],x,p,h=>by simp at h
 |y::r,q::s,x,p,h=>by
  have b:=dN r s x p (by simpa using h);rw[List.cons_append,List.cons_append];unfold yf;rw[b,List.append_assoc]
theorem eF(a:Tp.Nd->Tp.Nd)(c:∀x,(a x).k=x.k/\(a x).x=x.x)(b:Value):∀(l:List Tp.Nd) (d:List (Value × Value)) (i:Nat),d.length=l.length->i < l.length->(yf l d).set (i * 6+5) b=yf (l.modify i a) (d.modify i λq=>(q.1,b))
 | [],_,i,_,h=>by simp at h
 |y::r,[],i,h,_=>by simp at h
 |y::r,q::s,0,h,_=>by
  show _=yf (a y::r) ((q.1,b)::s);unfold yf;rw[(c y).1,(c y).2];simp
 |y::r,q::s,i+1,h,hi=>by
  show _=yf (y::r.modify i a) (q::s.modify i λq=>(q.1,b));unfold yf;rw[List.set_append,if_neg (by simp;omega),<-eF a c b r s i (by simpa using h) (by simpa using hi)];congr 2
  simp
  omega
theorem fM:∀(l:List Tp.Nd) (a:List (Value × Value)) (i:Nat) (x:Tp.Nd) (p:Value × Value),l[i]? =W x->a[i]? =W p->(yf l a)[i * 6+5]? =W p.2
 | [],_,i,x,p,h,_=>by simp at h
 |y::r,[],i,x,p,_,h=>by simp at h
 |y::r,q::s,0,x,p,h1,h2=>by
  simp at h1 h2
  subst h1 h2;rfl
 |y::r,q::s,i+1,x,p,h1,h2=>by
  unfold yf;rw[zV (by simp;omega),<-fM r s i x p (by simpa using h1) (by simpa using h2)];congr 1
  simp
  omega
def yO:List (Tp.B × Nat)->List (Value × Value)
 | []=>[]
 |p::r=>yO r++[(xR p.1,V I (p.2:Int))]
theorem dO:∀(b:List (Tp.B × Nat)) (p:Value × Value),p∈yO b->∃q∈b,p=(xR q.1,V I (q.2:Int))
 | [],p,a=>by simp[yO]at a
 |q::r,p,a=>by
  unfold yO at a;rcases List.mem_append.1 a with a|a
  ·obtain⟨e,d,c⟩:=dO r p a
   exact⟨e,List.mem_cons_of_mem _ d,c⟩
  ·exact⟨q,List.mem_cons_self ..,by simpa using a⟩
theorem fN:∀(b:List (Tp.B × Nat)) (q:Tp.B × Nat),q∈b->(xR q.1,Value.int I (q.2:Int))∈yO b
 | [],q,a=>by simp at a
 |p::r,q,a=>by
  unfold yO;rcases List.mem_cons.1 a with rfl|a
  ·exact List.mem_append_right _ (by simp)
  ·exact List.mem_append_left _ (fN r q a)
theorem oV{c:List (Tp.B × Nat)}{s:Tp.B}{i:Nat}(b:Tp.nameAt c s=W i):(s,i)∈c:=by
 unfold Tp.nameAt at b;obtain⟨p,a,rfl⟩:=zN.1 b;have e:=List.mem_of_find?_eq_some a;have d:=List.find?_some a;have f:p.1=s:=by simpa using d
 exact f ▸ e
theorem km:∀(d:List (Tp.B × Nat)),(d.map (·.1)).Nodup->∀(p q:Tp.B × Nat),p∈d->q∈d->p.1=q.1->p=q
 | [],_,p,q,h,_,_=>by simp at h
 |a::r,hn,p,q,c,b,e=>by
  rw[List.map_cons,List.nodup_cons]at hn;rcases List.mem_cons.1 c with rfl|c
  ·rcases List.mem_cons.1 b with rfl|b
   ·rfl
   ·exact absurd (List.mem_map.2 ⟨q,b,e.symm⟩) hn.1
  ·rcases List.mem_cons.1 b with f|b
   ·exact absurd (List.mem_map.2 ⟨p,c,by rw[e,f]⟩) hn.1
   ·exact km r hn.2 p q c b e
structure zh(w:World)(cb mb:Nat)(S:NS)(l:List Tp.Nd)(ns:List (Tp.B × Nat))(sa:Option Addr)(sn sc:Nat)(vs:List (Value × Value))(KG:NS):Prop where
 hd:w.heap[cb]? =W (J #[.int I 0,Y sa sn sc,.map (W mb)] 158 (0,0))
 row:w.ownsRow 0 185 6 (Value.slice sa sn sc) l.length (yf l vs)
 len:vs.length=l.length
 nds:∀(i:Nat) (x:Tp.Nd) (p:Value × Value),l[i]? =W x->vs[i]? =W p->Row w KG x.keys.length p.1 (xV x.keys)/\w.ownsRow 0 3 1 p.2 x.kids.length (xP x.kids)
 ownL:∀k,(Value.slice sa sn sc).ownBlock=W k->S k/\k≠cb/\k≠mb/\¬KG k
 ownK:∀(i:Nat) (p:Value × Value) (k:Nat),vs[i]? =W p->p.2.ownBlock=W k->S k/\k≠cb/\k≠mb/\¬KG k/\(Value.slice sa sn sc).ownBlock≠W k
 ownD:∀(i j:Nat) (p q:Value × Value) (k:Nat),i≠j->vs[i]? =W p->vs[j]? =W q->p.2.ownBlock=W k->q.2.ownBlock≠W k
 kg:∀k,KG k->S k/\k≠cb/\k≠mb
 map:xW π 9 w mb (yO ns)
 nd:(ns.map (·.1)).Nodup
 s:∀k,S k->k < w.heap.size
 scb:S cb
 smb:S mb
 ne:cb≠mb
def yL(w:World)(a f:Nat)(b:NS)(l:List Tp.Nd)(i:List (Tp.B × Nat)):Prop:=∃e c g d j,zh w a f b l i e c g d j
theorem zh.far{D d t:NS}{w w':World}{n m:Nat}{l:List Tp.Nd}{g:List (Tp.B × Nat)}{r:Option Addr}{q s:Nat}{j:List (Value × Value)}(a:zh w n m d l g r q s j t)(b:Far D w w')(c:∀k,d k->¬D k):zh w' n m d l g r q s j t:=by
 refine⟨b.heap a.hd (c _ a.scb),am a.row b (λk e=>c _ (a.ownL k e).1),a.len,λi x p y o=>?_,a.ownL,a.ownK,a.ownD,a.kg,a.map.far b (c _ a.smb),a.nd,λk f=>zK (a.s k f) b.size,a.scb,a.smb,a.ne⟩;obtain⟨v,u⟩:=a.nds i x p y o;exact⟨v.far b (λk f _=>c _ (a.kg k f).1),am u b (λk e=>c _ (a.ownK i p k o e).1)⟩
theorem yL.far{D a:NS}{w w':World}{c d:Nat}{l:List Tp.Nd}{e:List (Tp.B × Nat)}(b:yL w c d a l e)(f:Far D w w')(o:∀k,a k->¬D k):yL w' c d a l e:=by
 obtain⟨i,g,m,j,n,b⟩:=b;exact⟨i,g,m,j,n,b.far f o⟩
theorem yL.lt{b:NS}{w:World}{c d:Nat}{l:List Tp.Nd}{e:List (Tp.B × Nat)}(a:yL w c d b l e):∀k,b k->k < w.heap.size:=by
 obtain⟨g,f,j,i,m,a⟩:=a;exact a.s
theorem zh.sn{c k:NS}{w:World}{b f:Nat}{l:List Tp.Nd}{j:List (Tp.B × Nat)}{d:Option Addr}{a i:Nat}{e:List (Value × Value)}(g:zh w b f c l j d a i e k):a=l.length:=cz g.row
theorem zh.node{E M KK:NS}{w w5:World}{d H gg cap:Nat}{l:List Tp.Nd}{P:List (Tp.B × Nat)}{A:Option Addr}{z C:Nat}{m:List (Value × Value)}{x:Tp.Nd}{kv:Value}(b:zh w d H E l P A z C m M)(av:x.kids=[])
(r:Far (λk=>(Value.slice A z C).ownBlock=W k) w w5)(an:Row w5 KK x.keys.length kv (xV x.keys))(v:∀k,KK k->w.heap.size<=k/\k < w5.heap.size/\k≠gg)
(N:w5.ownsRow 0 185 6 (Y (W ⟨gg,0,O⟩) (l.length+1) cap) (l.length+1) (yf l m++[V I x.k,V I x.x.k,V I x.x.n,xR x.x.s,kv,Y O 0 0]))(G:(Value.slice A z C).ownBlock=W gg\/w.heap.size<=gg):
 zh (w5.setCell ⟨d,1,O⟩ (Y (W ⟨gg,0,O⟩) (l.length+1) cap)) d H (λk=>E k\/k=gg\/KK k) (l++[x]) P (W ⟨gg,0,O⟩) (l.length+1) cap (m++[(kv,Y O 0 0)]) (λk=>M k\/KK k)/\Far E w (w5.setCell ⟨d,1,O⟩ (Y (W ⟨gg,0,O⟩) (l.length+1) cap)):=by
 have n:Far (·=d) w5 (w5.setCell ⟨d,1,O⟩ (Y (W ⟨gg,0,O⟩) (l.length+1) cap)):=Far.setCell (D:=(·=d)) (ξ _ _) (p:=⟨d,1,O⟩) (λ_=>rfl) _;have a3:=b.s _ b.scb;have a2:=b.s _ b.smb;have T:(Value.slice A z C).ownBlock≠W d:=λe=>(b.ownL _ e).2.1 rfl;have L:gg≠d/\gg≠H:=by
  rcases G with e|e
  ·exact⟨(b.ownL _ e).2.1,(b.ownL _ e).2.2.1⟩
  ·omega
 have a0:∀k,M k->k≠gg:=λk a e=>by
  rcases G with f|f
  ·exact(b.ownL _ f).2.2.2 (e ▸ a)
  ·have:=b.s _ (b.kg k a).1;omega
 have ab:∀(i:Nat) (p:Value × Value) (k:Nat),m[i]? =W p->p.2.ownBlock=W k->k≠gg:=λi p k c e g=>by
  rcases G with f|f
  ·exact(b.ownK i p k c e).2.2.2.2 (g ▸ f)
  ·have:=b.s _ (b.ownK i p k c e).1;omega
 have a1:gg < w5.heap.size:=(N.lt gg rfl).2;have o:=b.len;have S:(Value.slice (W ⟨gg,0,O⟩) (l.length+1) cap).ownBlock=W gg:=rfl;refine⟨⟨ai (r.heap b.hd T) 1 _,?_,by simp[o],?_,?_,?_,?_,?_,(b.map.far r (λe=>(b.ownL _ e).2.2.1 rfl)).far n (λe=>b.ne e.symm),b.nd,?_,.inl b.scb,.inl b.smb,b.ne⟩,?_⟩
 ·rw[dN l m x _ o,zP]
  exact am N n (λk e b=>by injection e with e;exact L.1 (e.trans b))
 ·intro i al p s c
  rcases Nat.lt_or_ge i l.length with t|t
  ·rw[List.getElem?_append_left t]at s
   rw[List.getElem?_append_left (by omega)]at c;obtain⟨y,F⟩:=b.nds i al p s c;refine⟨((y.far r (λk a _ e=>(b.ownL k e).2.2.2 a)).far n (λk a _ e=>(b.kg k a).2.1 e)).mono (λ_ a _=>.inl a),am (am F r (λk e f=>(b.ownK i p k c e).2.2.2.2 f)) n (λk e f=>(b.ownK i p k c e).2.1 f)⟩
  ·have u:i=l.length:=by
    have:=(zM.1 s).1;simp at this
    omega
   subst u;rw[zV (η _),Nat.sub_self]at s;rw[zV (by omega),o,Nat.sub_self]at c;simp at s c
   subst s c;rw[av];refine⟨(an.far n (λk a _ e=>by have:=(v k a).1;omega)).mono (λ_ a _=>.inr a),World.ownsRow_nil _ _ _ _⟩
 ·intro k e
  rw[S]at e;injection e with e;subst e;exact⟨.inr (.inl rfl),L.1,L.2,λa=>by
   rcases a with a|a
   ·exact a0 _ a rfl
   ·exact(v _ a).2.2 rfl⟩
 ·intro i p k c e
  rcases Nat.lt_or_ge i l.length with t|t
  ·rw[List.getElem?_append_left (by omega)]at c
   obtain⟨y,F,ao,ad,_⟩:=b.ownK i p k c e;refine⟨.inl y,F,ao,λa=>?_,λg=>ab i p k c e (by rw[S]at g;injection g with g;exact g.symm)⟩;rcases a with a|a
   ·exact ad a
   ·have:=(v _ a).1;have:=b.s _ y;omega
  ·have u:i=l.length:=by
    have:=(zM.1 c).1;simp[o]at this
    omega
   subst u;rw[zV (by omega),o,Nat.sub_self]at c;simp at c
   subst c;simp[Value.ownBlock]at e
 ·intro i j p q k X c ac e g
  have R:∀(i:Nat) (p:Value × Value),(m++[(kv,Value.slice O 0 0)])[i]? =W p->p.2.ownBlock=W k->m[i]? =W p:=λi p c e=>by
   rcases Nat.lt_or_ge i l.length with t|t
   ·rwa [List.getElem?_append_left (by omega)]at c
   ·have u:i=l.length:=by
     have:=(zM.1 c).1;simp[o]at this
     omega
    subst u;rw[zV (by omega),o,Nat.sub_self]at c;simp at c
    subst c;simp[Value.ownBlock]at e
  exact b.ownD i j p q k X (R i p c e) (R j q ac g) e g
 ·intro k a
  rcases a with a|a
  ·exact⟨.inl (b.kg k a).1,(b.kg k a).2⟩
  ·have:=(v k a).1
   exact⟨.inr (.inr a),by omega,by omega⟩
 ·intro k a
  have:k < w5.heap.size:=by
   rcases a with a|rfl|a
   ·exact zK (b.s k a) r.size
   ·exact a1
   ·exact(v k a).2.1
  exact zK this n.size
 ·exact(r.mono (λk _ e=>(b.ownL k e).1)).step n (λk _ e=>e ▸ b.scb)
theorem D9{α:Type}(c:α->α):∀(l:List α) (i j:Nat) (x:α),(l.modify i c)[j]? =W x->(j=i/\∃b,l[j]? =W b/\x=c b)\/(j≠i/\l[j]? =W x):=by
 intro l i j x a;rw[List.getElem?_modify]at a;by_cases e:i=j
 ·subst e
  left
  simp only[if_true]at a;obtain⟨b,f,d⟩:=zN.1 a;exact⟨rfl,b,f,d.symm⟩
 ·right
  simp only[e,if_false]at a;exact⟨λg=>e g.symm,by simpa using a⟩
theorem zh.kid{S KG:NS}{w w5:World}{cb mb lb at' j:Nat}{l:List Tp.Nd}{ns:List (Tp.B × Nat)}{sn sc:Nat}{vs:List (Value × Value)}{x:Tp.Nd}{p:Value × Value}{dv:Value}(h:zh w cb mb S l ns (W ⟨lb,0,O⟩) sn sc vs KG)(hx:l[at']? =W x)(hp:vs[at']? =W p)
(hf:Far (λk=>p.2.ownBlock=W k) w w5)(hown:w5.ownsRow 0 3 1 dv (x.kids.length+1) (xP (x.kids++[j])))(hat:∀k,dv.ownBlock=W k->p.2.ownBlock=W k\/w.heap.size<=k):
 zh (w5.setCell ⟨lb,at' * 6+5,O⟩ dv) cb mb (λk=>S k\/dv.ownBlock=W k) (Tp.addKid at' j l) ns (W ⟨lb,0,O⟩) sn sc (vs.modify at' λq=>(q.1,dv)) KG/\Far S w (w5.setCell ⟨lb,at' * 6+5,O⟩ dv):=by
 have hself:(Value.slice (W ⟨lb,0,O⟩) sn sc).ownBlock=W lb:=rfl;have hs:Far (·=lb) w5 (w5.setCell ⟨lb,at' * 6+5,O⟩ dv):=Far.setCell (D:=(·=lb)) (ξ _ _) (p:=⟨lb,at' * 6+5,O⟩) (λ_=>rfl) _;obtain⟨hl1,hl2,hl3,hl4⟩:=h.ownL lb hself;have hlt:=(zM.1 hx).1;have hpS:∀k,p.2.ownBlock=W k->S k/\k≠cb/\k≠mb/\¬KG k/\k≠lb:=λk e=>by
  obtain⟨a,b,c,d,e'⟩:=h.ownK at' p k hp e;exact⟨a,b,c,d,λe2=>e' (by rw[hself,e2])⟩
 have hdv:∀k,dv.ownBlock=W k->k≠cb/\k≠mb/\¬KG k/\k≠lb:=λk e=>by
  rcases hat k e with e'|e'
  ·exact(hpS k e').2
  ·have h1:=h.s _ h.scb
   have h2:=h.s _ h.smb;have h3:=h.s _ hl1;exact⟨by omega,by omega,λhk=>by have:=h.s _ (h.kg k hk).1;omega,by omega⟩
 have hdo:∀i q k,i≠at'->vs[i]? =W q->q.2.ownBlock=W k->dv.ownBlock≠W k:=λi q k hi hq e e2=>by
  rcases hat k e2 with e'|e'
  ·exact h.ownD i at' q p k hi hq hp e e'
  ·have:=h.s _ (h.ownK i q k hq e).1;omega
 have hrow5:=am h.row hf (λk e e'=>(hpS k e').2.2.2.2 (by rw[hself]at e;injection e with e;exact e.symm));refine⟨⟨hs.heap (hf.heap h.hd (λe=>(hpS _ e).2.1 rfl)) (λe=>hl2 e.symm),?_,by simp[Tp.addKid,h.len],?_,λk e=>?_,?_,?_,λk hk=>⟨.inl (h.kg k hk).1,(h.kg k hk).2⟩,(h.map.far hf (λe=>(hpS _ e).2.2.1 rfl)).far hs (λe=>hl3 e.symm),h.nd,?_,.inl h.scb,.inl h.smb,h.ne⟩,?_⟩
 ·unfold Tp.addKid
  rw[List.length_modify,<-eF (λx=>{ x with kids:=x.kids++[j] }) (λ_=>⟨rfl,rfl⟩) dv l vs at' h.len hlt];obtain rfl:=h.sn;exact aT hrow5 _ _
 ·intro i y q hy hq
  unfold Tp.addKid at hy;rcases D9 _ _ _ _ _ hy with ⟨rfl,y',hy',rfl⟩|⟨hi,hy⟩
  ·rcases D9 _ _ _ _ _ hq with ⟨_,q',hq',rfl⟩|⟨hi,_⟩
   ·rw[hx]at hy';injection hy' with hy';subst hy'
    rw[hp]at hq';injection hq' with hq';subst hq';obtain⟨h1,_⟩:=h.nds i x p hx hp;exact⟨(h1.far hf (λk hk _ e=>(hpS k e).2.2.2.1 hk)).far hs (λk hk _ e=>hl4 (e ▸ hk)),by rw[zP];exact am hown hs (λk e e'=>(hdv k e).2.2.2 e')⟩
   ·exact absurd rfl hi
  ·rcases D9 _ _ _ _ _ hq with ⟨e,_⟩|⟨_,hq⟩
   ·exact absurd e hi
   ·obtain⟨h1,h2⟩:=h.nds i y q hy hq
    exact⟨(h1.far hf (λk hk _ e=>(hpS k e).2.2.2.1 hk)).far hs (λk hk _ e=>hl4 (e ▸ hk)),am (am h2 hf (λk e e'=>h.ownD i at' q p k hi hq hp e e')) hs (λk e e'=>(h.ownK i q k hq e).2.2.2.2 (by rw[hself,e']))⟩
 ·rw[hself]at e;injection e with e;subst e
  exact⟨.inl hl1,hl2,hl3,hl4⟩
 ·intro i q k hq e
  rcases D9 _ _ _ _ _ hq with ⟨rfl,q',hq',rfl⟩|⟨hi,hq⟩
  ·exact⟨.inr e,(hdv k e).1,(hdv k e).2.1,(hdv k e).2.2.1,λe2=>(hdv k e).2.2.2 (by rw[hself]at e2;injection e2 with e2;exact e2.symm)⟩
  ·obtain⟨a,b⟩:=h.ownK i q k hq e
   exact⟨.inl a,b⟩
 ·intro i i' q q' k hii hq hq' e e2
  rcases D9 _ _ _ _ _ hq with ⟨rfl,y,hy,rfl⟩|⟨hi,hq⟩
  ·rcases D9 _ _ _ _ _ hq' with ⟨rfl,_⟩|⟨hi',hq'⟩
   ·exact hii rfl
   ·exact hdo i' q' k hi' hq' e2 e
  ·rcases D9 _ _ _ _ _ hq' with ⟨ei,y,hy,rfl⟩|⟨hi',hq'⟩
   ·exact hdo i q k hi hq e e2
   ·exact h.ownD i i' q q' k hii hq hq' e e2
 ·intro k hk
  refine zK (?_:k < w5.heap.size) hs.size;rcases hk with hk|hk
  ·exact zK (h.s k hk) hf.size
  ·exact(hown.lt k hk).2
 ·exact(hf.mono (λk _ e=>(hpS k e).1)).step hs (λk _ e=>e ▸ hl1)
theorem zh.name{m y:NS}{w w':World}{o d i:Nat}{s:Tp.B}{l:List Tp.Nd}{c:List (Tp.B × Nat)}{u:Option Addr}{t v:Nat}{n:List (Value × Value)}(a:zh w o d m l c u t v n y)(F:xW π 9 w' d (yO c++[(xR s,.int I (i:Int))]))(b:Far (·=d) w w')(D:∀p∈c,p.1≠s):zh w' o d m l ((s,i)::c) u t v n y:=by
 refine⟨b.heap a.hd a.ne,am a.row b (λk e g=>(a.ownL k e).2.2.1 g),a.len,λj x p E r=>?_,a.ownL,a.ownK,a.ownD,a.kg,F,?_,λk f=>zK (a.s k f) b.size,a.scb,a.smb,a.ne⟩
 ·obtain⟨C,z⟩:=a.nds j x p E r
  exact⟨C.far b (λk f _ e=>(a.kg k f).2.2 e),am z b (λk e g=>(a.ownK j p k r e).2.2.1 g)⟩
 ·rw[List.map_cons,List.nodup_cons]
  exact⟨λe=>by obtain⟨q,A,e⟩:=List.mem_map.1 e;exact D q A e,a.nd⟩
theorem mv{b:List (Tp.B × Nat)}{s:Tp.B}(a:Tp.nameAt b s=O):∀p∈b,p.1≠s:=by
 intro p c e;unfold Tp.nameAt at a;rw[Option.map_eq_none_iff,List.find?_eq_none]at a;exact a p c (by simp[e])
theorem kA(a:List (Tp.B × Nat))(s:Tp.B)(w:s.length<=1000)(k:Nat)(u:(a.map (·.1)).Nodup):∃(v:Int) (ok:Bool),(∀i,Tp.nameAt a s=W i->ok=true/\v=(i:Int))/\∀b,xW π 9 b k (yO a)->(Instr.lookup 156 (.map (W k)) (xR s) true).run π b=.ok (.tuple #[.int I v,.bool ok]) b/\(Instr.lookup 156 (.map (W k)) (xR s) false).run π b=.ok (.int I v) b:=by
 obtain⟨l,f⟩:=o3 ⟨s.toArray⟩ (by show s.length<=_;omega);cases t:Tp.nameAt a s with
 |some i=>
  refine⟨(i:Int),true,λj d=>by injection d with d;subst d;exact⟨rfl,rfl⟩,λb c=>?_⟩;have n:=oV t;have r:∀p∈yO a,p.1=xR s->p.2=Value.int I (i:Int):=λp m e=>by
   obtain⟨q,g,rfl⟩:=dO a p m;have:=km a u q (s,i) g n (fh e);rw[this]
  exact⟨c.look_in lG underlying156 (gC _) (xR s) f true _ (fN a _ n) r,c.look_in lG underlying156 (gC _) (xR s) f false _ (fN a _ n) r⟩
 |none=>
  refine⟨0,false,(λj d=>by cases d),λb c=>?_⟩;have o:∀p∈yO a,p.1≠xR s:=λp m e=>by
   obtain⟨q,g,rfl⟩:=dO a p m;exact mv t q g (fh e)
  exact⟨c.look_out lG underlying156 (gC _) (xR s) f true o,c.look_out lG underlying156 (gC _) (xR s) f false o⟩
theorem lf(bR b0 ao:Nat)(k:Int)(d:Tp.B)(x:Tp.Sc)(b:List Tp.Sc)(c:List Tp.Tree)(kv bw:Value)(C b9:NS)(l:List Tp.Nd)(r:List (Tp.B × Nat))(w:World)(cm:yL w b0 ao b9 l r)(P:Row w C b.length kv (xV b))(co:∃a b8,bw=Y a c.length b8)(bb:Glob w)(a9:∀k,C k->k < w.heap.size)(be:x8 x=true/\x.s.length<=1000)(M:∀f∈b,x8 f=true/\f.s.length<=1000)(a5:d.length<=1000)
(b2:Tp.shaped ⟨k,d,x,b,c⟩=true)(ba:Tp.twice b=false)(c5:bR<=24)(an:k=3->∃i,Tp.nameAt r d=some i)(F:k≠3->l.length≠200):
 Calls π 109 #[.pointer (some ⟨b0,0,O⟩),γ #[.int I k,xR d,.int I x.k,.int I x.n,xR x.s,kv,bw],.int I (bR:Int)] w λe w'=>e=ρ .nilIface/\Below w.heap.size w w':=by
 obtain⟨c2,c6,c9,cS,c4,s⟩:=cm;obtain rfl:=s.sn;obtain⟨c3,c0,bk,a1⟩:=kA r d a5 ao s.nd;obtain⟨m,q,rfl,_⟩:=P.form;obtain⟨p,g,rfl⟩:=co;have av:=λW (j:Far xO w W)=>kG k d x b c (Y m b.length q) (Y p c.length g) C W (P.far j (λ_ _ _ e=>e)) ⟨_,_,rfl⟩ (bb.far j (λ_ _ e=>e)) be M a5 b2;have a2:=λW (j:Far xO w W)=>jI b _ C W (λf bn=>qT f (M f bn).1 (M f bn).2) (P.far j (λ_ _ _ e=>e)) (λk cb=>zK (a9 k cb) j.size);rw[ba]at a2;obtain⟨S,ad⟩:∃T,xR d=.string T:=⟨_,rfl⟩;obtain⟨H,b1⟩:∃T,xR x.s=.string T:=⟨_,rfl⟩;rw[ad,b1]at av;rw[ad]at a1;rw[ad,b1];have X:Far xO w (w.alloc (J #[.int I k,.string S,.int I x.k,.int I x.n,.string H,Y m b.length q,Y p c.length g] 161)):=(ξ _ w).alloc _;have cv:=af w (J #[.int I k,.string S,.int I x.k,.int I x.n,.string H,Y m b.length q,Y p c.length g] 161);have ac:=s.far X (λ_ _ e=>e);obtain⟨bm,cc⟩:∃n,l.length=n:=⟨_,rfl⟩;have a0:=ac.hd;have b6:=λn=>(a1 _ (show xW π 9 ((w.alloc (J #[.int I k,.string S,.int I x.k,.int I x.n,.string H,Y m b.length q,Y p c.length g] 161)).drewN n) ao (yO r)from ac.map)).1;rw[cc]at F a0;obtain⟨cl,ca,a3,ab,al,cf⟩:=zx6 av a2 X a0 cv bk;clear av a2 X a0 s ac P bb a9 be M a5 b2 ba a1 bk
 go_enter func109,ntmps109
 go_upto_region 1 with (fail)
 generalize (w.alloc (J #[.int I k,.string S,.int I x.k,.int I x.n,.string H,Y m b.length q,Y p c.length g] 161))=o at *;obtain⟨z,L,u,_⟩:=bv ab.out;obtain⟨v,E,N,D,t,A,R,_⟩:=bd al.out
 go_quiet (fail)
 go_wp2_with fail
 have a4:Far xO o (o.drewN nq):=(ξ _ o).drewN nq;have ck:=zD a4;refine(cl.out _ (a3.out.trans a4)).mono ?_;rintro e ct ⟨rfl,b4⟩;have b3:Far xO o ct:=ck.out.below b4;have y:=zD b3;clear b4 b3 a4 z L u v E N D t A R b6;obtain⟨z,L,u,_⟩:=bv (y.out.heap ab.out id);obtain⟨v,E,N,D,t,A,R,_⟩:=bd (y.out.heap al.out id)
 go_wp2_with fail
 refine(ca.out _ (a3.out.trans y.out)).mono ?_;rintro e b5 ⟨rfl,bq⟩;have bs:Far xO o b5:=y.out.below bq;have a6:=zD bs;clear bq bs z L u v E N D t A R;obtain⟨z,L,u,_⟩:=bv (a6.out.heap ab.out id);obtain⟨v,E,N,D,t,A,R,_⟩:=bd (a6.out.heap al.out id);have bx:Below w.heap.size w b5:=(a3.out.trans a6.out).to_below (η _) (λ_ _ e=>e);by_cases G:k=3
 ·obtain⟨i,bD⟩:=an G
  obtain⟨rfl,rfl⟩:=cf.out i bD;subst G;clear an F bD
  go_wp2_with fail
  go_ret
  exact⟨rfl,bx⟩
 ·have cT:=F G
  have ch:¬(bm:Int)=200:=by omega
  have c1:(k==3)=false:=by simpa using G
  have da:((bm:Int)==200)=false:=by simpa using ch
  clear an F
  go_wp2_with fail
  go_ret
  exact⟨rfl,bx⟩
mutual
def zb:Tp.Tree->Prop
 |⟨_,name,x,keys,kids⟩=>(x8 x=true/\x.s.length<=1000)/\(∀a∈keys,x8 a=true/\a.s.length<=1000)/\name.length<=1000/\keys.length<=1000000/\kids.length<=1000000/\yE kids
def yE:List Tp.Tree->Prop
 | []=>True
 |t::r=>zb t/\yE r
end
mutual
def yv:Tp.Tree->List Tp.B
 |⟨k,name,_,_,kids⟩=>(if k=3\/name=[]then []else [name])++yl kids
def yl:List Tp.Tree->List Tp.B
 | []=>[]
 |t::r=>yv t++yl r
end
theorem yE.at:∀(a:List Tp.Tree) (i:Nat) (t:Tp.Tree),yE a->a[i]? =W t->zb t
 | [],i,t,_,h=>by simp at h
 |x::r,0,t,hg,h=>by
  unfold yE at hg;simp at h
  exact h ▸ hg.1
 |x::r,i+1,t,hg,h=>by
  unfold yE at hg;exact yE.at r i t hg.2 (by simpa using h)
theorem iH(j:Nat)(s:List Tp.Nd):∀(a:List Tp.Nd) (b:Nat),a.length<=b->Tp.addKid b j (a++s)=a++Tp.addKid (b - a.length) j s
 | [],b,_=>rfl
 |x::r,0,h=>by simp at h
 |x::r,n+1,h=>by
  have c:=iH j s r n (by simpa using h);rw[zO,Nat.add_sub_add_right];show x::Tp.addKid n j (r++s)=x::(r++_);rw[c]
mutual
theorem lay_ext:∀(t:Tp.Tree) (d:Nat) (l:List Tp.Nd) (c:List (Tp.B × Nat)) (i:Nat) (b:List Tp.Nd) (e:List (Tp.B × Nat)),Tp.lay d t (l,c)=W (i,b,e)->(∃s,b=l++s)/\(∀p∈e,p∈c\/p.1∈yv t)/\(l.length<=200->b.length<=200)
 |⟨k,name,x,keys,kids⟩,d,l,c,i,b,e,h=>by
  unfold Tp.lay at h;split at h
  ·cases h
  ·split at h
   ·obtain⟨j,_,G⟩:=zN.1 h
    cases G
    exact⟨⟨[],(List.append_nil _).symm⟩,λp f=>.inl f,id⟩
   ·rename_i hk3
    split at h
    ·cases h
    ·rename_i h200
     obtain⟨⟨E,w⟩,n,H⟩:=zN.1 h;cases H
     obtain⟨z,q,A⟩:=layL_ext kids (d+1) l.length _ _ b e n l (η _) ⟨_,rfl⟩;refine⟨z,λp f=>?_,λC=>A (by rw[zP];show l.length+1<=200;omega)⟩;unfold yv;rcases q p f with a|a
     ·by_cases o:name=[]
      ·subst o
       simp at a
       exact .inl a
      ·rw[show name.isEmpty=false by simpa using o]at a
       simp at a
       rcases a with a|a
       ·right
        rw[if_neg (by simp[hk3,o])];simp[a]
       ·exact .inl a
     ·exact .inr (List.mem_append_right _ a)
theorem layL_ext:∀(D:List Tp.Tree) (d m:Nat) (l:List Tp.Nd) (c:List (Tp.B × Nat)) (b:List Tp.Nd) (e:List (Tp.B × Nat)),Tp.layL d m D (l,c)=W (b,e)->∀g:List Tp.Nd,g.length<=m->(∃s,l=g++s)->(∃s,b=g++s)/\(∀p∈e,p∈c\/p.1∈yl D)/\(l.length<=200->b.length<=200)
 | [],d,m,l,c,b,e,h,g,_,n=>by
  unfold Tp.layL at h;cases h
  exact⟨n,λp f=>.inl f,id⟩
 |t::r,d,m,l,c,b,e,h,g,hl0,n=>by
  unfold Tp.layL at h;cases u:Tp.lay d t (l,c) with
  |none=>rw[u]at h;cases h
  |some v=>
   obtain⟨i,E,w⟩:=v;rw[u]at h;simp only at h;obtain⟨⟨L,rfl⟩,o,F⟩:=lay_ext t d l c i E w u;obtain⟨s,rfl⟩:=n;obtain⟨z,q,A⟩:=layL_ext r d m _ w b e h g hl0 ⟨_,by rw[List.append_assoc];exact iH i _ g m hl0⟩;refine⟨z,λp f=>?_,λC=>A (by unfold Tp.addKid;rw[List.length_modify];exact F C)⟩;unfold yl;rcases q p f with a|a
   ·rcases o p a with y|y
    ·exact .inl y
    ·exact .inr (List.mem_append_left _ y)
   ·exact .inr (List.mem_append_right _ a)
end
theorem vz{t:Tp.Tree}{e:Nat}{l a:List Tp.Nd}{c d:List (Tp.B × Nat)}{i:Nat}(f:Tp.lay e t (l,c)=W (i,a,d)){j:Nat}{x:Tp.Nd}(b:l[j]? =W x):a[j]? =W x:=by
 obtain⟨⟨s,rfl⟩,_⟩:=lay_ext t e l c i a d f;rw[List.getElem?_append_left (zM.1 b).1];exact b
theorem sO{l:List Tp.Nd}{i:Nat}{x:Tp.Nd}(j:Nat)(hx:l[i]? =W x):(Tp.addKid i j l)[i]? =W { x with kids:=x.kids++[j] }:=by
 unfold Tp.addKid;rw[List.getElem?_modify,hx];simp
theorem lX(d:List Tp.Sc):∀a∈xV d,a.oneCell'=true:=by
 intro a c;obtain⟨x,_,b⟩:=List.mem_flatMap.1 c;simp at b
 rcases b with rfl|rfl|rfl<;>rfl
theorem k8(b:List Tp.Sc)(v:Value)(R:NS)(w:World)(al:Row w R b.length v (xV b))(ao:b.length<=1000000):
 Calls π 110 #[v] w λe w'=>(∃l,e=ρ l/\Row w' (New w) b.length l (xV b))/\Below w.heap.size w w':=by
 obtain⟨a0,an,L,T,X⟩:=info_parts uG;obtain⟨D,g,o,cap,rfl,t,C,c⟩:=al;have a1:=λm=>Lib.run_eql_slice_nil (P:=π) m 28 30 D b.length cap 0 0 underlying28;have u28:∀w,Sem.run π (underlying 28) w=.ok (TypeDesc.slice 30) w:=run_underlying underlying28;cases D with
 |none=>
  have p:b=[]:=by
   cases b with
   |nil=>rfl
   |cons a l=>exact absurd (c (by simp[xV])).1 (by simp)
  subst p;have av:=λm=>Lib.run_eql_slice_nil (P:=π) m 28 30 O 0 cap 0 0 underlying28;simp only[Option.isNone_none]at av;clear t C c
  go_enter func110,ntmps110
  go_wp2_with fail
  go_ret
  exact⟨⟨_,rfl,cy _ _⟩,ζ _ _⟩
 |some ad=>
  obtain⟨d,A⟩:∃d,b.length=d:=⟨_,rfl⟩;have x:(xV b).length=d * 3:=by rw[fq,A]
  have q:∀j f,(xV b)[j]? =W f->(w.alloc (J #[] 30)).cell? (ad.add j)=W f:=λj f s=>by
   have H:xV b≠[]:=λe=>by rw[e]at s;simp at s
   obtain⟨r,M,a2⟩:=c H;injection r with r;subst r;have ab:(⟨g,o,O⟩:Addr).add j=⟨g,o+j,O⟩:=by unfold Addr.add;split<;>simp_all
   rw[ab];exact aK M (a2 j f s)
  rw[A]at a1 ao ⊢;have n:=lX b;generalize hXS:xV b=F at x q n ⊢;obtain⟨y,z⟩:=zx2 q n;clear t C c q n hXS
  go_enter func110,ntmps110
  go_wp2_with (at_builtin;refine wpList_append_own _ rfl _ _ 28 rfl w.heap.size 30 a0 _ 3 32 underlying28 an L T X rfl (by decide) _ _ _ rfl (World.ownsRow_made w #[] 0 (η _) (z_ _) rfl) ad d cap F rfl x y.out z.out (by unfold maxLen;omega) (by omega) (by simp) ?_)
  intro a3 G i E p;have u:Below w.heap.size w G:=((ζ _ w).alloc (η _) _).grown E (by simp) (by intro k N;simp[Value.ownBlock]at N;omega);try simp only[Nat.zero_add,List.nil_append]at i
  have S:=zD u;have ac:=zD (az i);clear u i E p y z
  go_wp2_with fail
  go_ret
  exact⟨⟨_,rfl,ac.out⟩,S.out⟩
section
attribute [local go_sem] ak
def Au(w:World)(c d:Nat)(b:NS)(l:List Tp.Nd)(f:List (Tp.B × Nat))(v:Value):Ending->World->Prop:=λe w'=>e=ρ v/\∃a,yL w' c d a l f/\(∀k,a k->b k\/w.heap.size<=k)/\Far b w w'
theorem oX(m ch q ba r c z j:Nat)(F:List Value)(u:NS)(E:List Tp.Nd)(ct:List (Tp.B × Nat))(x:Tp.Nd)(w:World)(d2:∃al av a3 P T X ab a2 ao ac R,F=[V I al,U av,V I a3,V I P,U T,Y X ab a2,Y ao ac R])(G:w.heap[q]? =W (J #[Z (W ⟨m,0,O⟩)] 155 (0,0)))(b8:w.heap[ba]? =W (J #[V I (z:Int)] 3 (0,0)))(cv:w.heap[r]? =W (J #[V I (c:Int)] 3 (0,0)))(a4:¬u q/\¬u ba/\¬u r)(ex:z<=100)(H:E[c]? =W x)(d3:x.kids.length<=1000000)
(a9:Calls π 76 #[Z (W ⟨m,0,O⟩),γ F.toArray,V I ((z+1:Nat):Int)] (w.alloc (J F.toArray 78)) (Au (w.alloc (J F.toArray 78)) m ch u E ct (.tuple #[V I (j:Int),.nilIface]))):
 Calls π 111 #[γ F.toArray,Z (W ⟨q,0,O⟩),Z (W ⟨ba,0,O⟩),Z (W ⟨r,0,O⟩)] w (Au w m ch u (Tp.addKid c j E) ct .nilIface):=by
 obtain⟨dn,d1,di,ef,dW⟩:=info_parts gI;obtain⟨al,av,a3,P,T,X,ab,a2,ao,ac,R,rfl⟩:=d2;obtain⟨cc,ad⟩:∃d,w.alloc (J (#[V I al,U av,V I a3,V I P,U T,Y X ab a2,Y ao ac R]) 78)=d:=⟨_,rfl⟩;have i:Far xO w cc:=by rw[<-ad];exact(ξ _ w).alloc _
 have bs:=af w (J (#[V I al,U av,V I a3,V I P,U T,Y X ab a2,Y ao ac R]) 78);have en:w.heap.size < cc.heap.size:=by rw[<-ad];simp
 rw[ad]at a9 bs;obtain⟨da,dC,d5,dm,c2,dj,ek,_⟩:=bd bs;have c3:=zF (i.heap G id) 0 rfl;have c5:=zF (i.heap b8 id) 0 rfl;have dp:IntKind.i64.wrap ((z:Int)+1)=((z+1:Nat):Int):=by rw[show (z:Int)+1=((z+1:Nat):Int)by omega];exact zU _ (by omega)
 obtain⟨ei,d4,cf,b2⟩:=zx4 a9 i G cv;clear a9 i bs G b8 cv
 go_enter func111,ntmps111
 go_upto_region 1 with (fail)
 clear ad
 go_wp2_with fail
 refine ei.out.mono ?_;rintro e f ⟨rfl,cl,bm,bw,cS⟩;clear da dC d5 dm c2 dj ek c3 c5 dp;obtain⟨db,e2,bx,bR,er,o⟩:=bm;obtain rfl:=o.sn;have b4:=(zM.1 H).1;obtain⟨p,N⟩:∃p,bR[c]? =W p:=⟨_,zE (by rw[o.len];exact b4)⟩;obtain⟨_,M⟩:=o.nds c x p H N;obtain⟨lb,rfl⟩:∃lb,db=W ⟨lb,0,O⟩:=by
  rcases o.row.2 with ⟨e,e0⟩|⟨g,cap,b1,e,_⟩
  ·omega
  ·injection e with e _ _
   exact⟨g,e⟩
 obtain⟨C,ca,y,an⟩:∃a n df,p.2=Y a n df:=by
  rcases M.2 with ⟨e,_⟩|⟨g,cap,b1,e,_⟩
  ·exact⟨_,_,_,e⟩
  ·exact⟨_,_,_,e⟩
 have c5:f.cell? ⟨lb,c * 6+5,O⟩=W (Y C ca y):=by
  have b:=o.row.cells (g:=lb) rfl (c * 6+5) p.2 (fM E bR c x p H N);rw[an,gK]at b;exact b
 have ck:f.frozen? ⟨lb,c * 6+5,O⟩=false:=by
  obtain⟨b1,ej⟩:=aU o.row;exact ag ej _
 have b0:=d4.out.mono (D':=u) (λ_ _ e=>e.elim);have a0:=b0.trans cS;have c3:=zF (a0.heap cf.out a4.1) 0 rfl;have bD:=zF (a0.heap b2.out a4.2.2) 0 rfl;have bb:=zF o.hd 1 rfl;have eg:=lt_of_heap cf.out;have c4:=lt_of_heap b2.out;have a1:∀k,k < w.heap.size->¬u k->¬cl k:=λk d6 dA G=>by
  rcases bw k G with b|b
  ·exact dA b
  ·omega
 have bk:∀k,p.2.ownBlock=W k->k≠q/\k≠r/\k≠m/\k≠lb/\cl k:=λk e=>by
  obtain⟨a6,dJ,_,_,dv⟩:=o.ownK c p k N e;refine⟨λb=>a1 q eg a4.1 (b ▸ a6),λb=>a1 r c4 a4.2.2 (b ▸ a6),dJ,λb=>dv (by rw[b];rfl),a6⟩
 have dg:(c:Int) < (E.length:Int):=by omega
 have es:(0:Int)<=(c:Int):=by omega
 obtain⟨L,bm⟩:∃L,E.length=L:=⟨_,rfl⟩;rw[an]at M bk;have c6:ca=x.kids.length:=cz M;subst c6;obtain⟨s,S⟩:∃n,x.kids.length=n:=⟨_,rfl⟩;obtain⟨c1,be,A,b6,a5,c0⟩:=zx6 o M bk a0 bw an;have co:=zD (θ H N);have eM:=zD a1;rw[bm]at bb dg b4;rw[S]at c5 d3 be A;have l:(λd=>d.cell? ⟨q,0,O⟩=W (Z (W ⟨m,0,O⟩))/\d.cell? ⟨r,0,O⟩=W (V I (c:Int))/\d.cell? ⟨m,1,O⟩=W (Y (W ⟨lb,0,O⟩) L bx)/\d.cell? ⟨lb,c * 6+5,O⟩=W (Y C s y)) f.drew:=⟨c3,bD,bb,c5⟩;clear o M bk b0 a0 bw cS an H N a1 c3 bD bb c5
 go_upto_region 2 with (fail)
 refine wp_region_noPanic ?_;refine ar (λd=>d.cell? ⟨q,0,O⟩=W (Z (W ⟨m,0,O⟩))/\d.cell? ⟨r,0,O⟩=W (V I (c:Int))/\d.cell? ⟨m,1,O⟩=W (Y (W ⟨lb,0,O⟩) L bx)/\d.cell? ⟨lb,c * 6+5,O⟩=W (Y C s y)) [20] (by kernel_rfl) ?_;refine ay 10 (by kernel_rfl) (λ_ _ _ _ b=>b) l 5 [0,1,2,3,4,5,6,7,8,9,10,11,12,13,14,15] _ _ (by kernel_rfl) ?_;iterate 16 (refine Ei ?_;(try go_frame))
 refine xT.done ?_;try dsimp only
 refine aq [16] ?_;refine aj rfl (λK t=>?_) xQ.nil
 go_simp
 have i:Far xO f (f.drew.alloc (J #[V I (j:Int)] 3)):=(ξ _ f).drew.alloc _;refine t.out _ _ (λ_=>⟨i.at l.1 id,i.at l.2.1 id,i.at l.2.2.1 id,i.at l.2.2.2 id⟩) ?_;clear t K
 (try go_frame)
 refine aq [17] ?_;refine aj rfl (λK t=>?_) xQ.nil;refine wp_append_lies _ (.tmp 31) (.tmp 33) 122 rfl 0 3 dn _ 1 8 underlying122 d1 di ef dW rfl (by decide) (Y C s y) s _ rfl (am be.out i (λ_ _ e=>e)) ⟨f.heap.size,0,O⟩ 1 1 [V I (j:Int)] ?_ rfl ?_ ?_ (by omega) ?_ ?_ ?_ _ rfl ?_
 ·rfl
 ·intro ds eq dc
  rw[gK];exact(ae (af f.drew (J #[V I (j:Int)] 3)) ds).trans (by simpa using dc)
 ·simp[Value.oneCell']
 ·unfold maxLen;omega
 ·omega
 ·exact z_ _
 intro gg cap w5 bn cT b9 ep;have v:Far (λk=>(Value.slice C s y).ownBlock=W k) f w5:=(i.mono (λ_ _ e=>e.elim)).grown cT (λk e _=>e);have el:f.heap.size<=(f.alloc (J #[V I (j:Int)] 3)).drew.heap.size:=i.size;have bq:∀k,(Value.slice (W ⟨gg,0,O⟩) (s+1) cap).ownBlock=W k->(Value.slice C s y).ownBlock=W k\/f.heap.size<=k:=λk e=>by
  injection e with e;dsimp only at e
  subst e;rcases b9 with b|b
  ·exact .inl b
  ·right;omega
 have b5:(λd=>d.cell? ⟨q,0,O⟩=W (Z (W ⟨m,0,O⟩))/\d.cell? ⟨r,0,O⟩=W (V I (c:Int))/\d.cell? ⟨m,1,O⟩=W (Y (W ⟨lb,0,O⟩) L bx)/\d.cell? ⟨lb,c * 6+5,O⟩=W (Y C s y)) w5:=⟨v.at l.1 (λe=>(A.out _ e).1 rfl),v.at l.2.1 (λe=>(A.out _ e).2.1 rfl),v.at l.2.2.1 (λe=>(A.out _ e).2.2.1 rfl),v.at l.2.2.2 (λe=>(A.out _ e).2.2.2.1 rfl)⟩;have dl:=v.frozen (p:=⟨lb,c * 6+5,O⟩) (World.block_lt_of_cell? f ⟨lb,c * 6+5,O⟩ l.2.2.2) (λe=>(A.out _ e).2.2.2.1 rfl);rw[show f.frozen? ⟨lb,c * 6+5,O⟩=false from ck]at dl;rw[show xP x.kids++[Value.int I (j:Int)]=xP (x.kids++[j])by simp[xP]]at bn;obtain⟨b3,cm⟩:=c1.out.kid (j:=j) (w5:=w5) co.out.1 co.out.2 (by rw[c0.out,S];exact v) (by rw[S];exact bn) (by rw[c0.out,S];exact bq);obtain⟨dr,d0,c9⟩:=zx3 b3 cm bq;have e1:=b5.2.2.2;have cb:=zD b5;refine t.out _ _ (λ_=>cb.out) ?_;clear t K bn cT b9 v i b3 cm bq l c1 be ck
 (try go_frame)
 refine ay 10 (by kernel_rfl) (λ_ _ _ _ b=>b) cb.out 1 [18,19] _ _ (by kernel_rfl) ?_;iterate 2 (refine Ei ?_;(try go_frame))
 refine xT.done ?_;try dsimp only
 refine aq [20] ?_;refine aj rfl (λK t=>?_) xQ.nil
 go_simp
 refine t.out _ _ (λb=>absurd (by simp) b) ?_;clear t K
 (try go_frame)
 refine aP (by kernel_rfl) (NoPanic.normal ?_) _
 go_wp2_with fail
 go_ret
 refine⟨rfl,_,⟨_,_,_,_,_,dr.out⟩,λk D=>?_,b6.out.step d0.out (λk D e=>?_)⟩
 ·have d6:=b6.out.size
  rcases D with D|D
  ·rcases a5.out k D with b|b
   ·exact .inl b
   ·right;omega
  ·rcases c9.out k D with b|b
   ·rcases a5.out k (A.out k b).2.2.2.2 with b|b
    ·exact .inl b
    ·right;omega
   ·right;omega
 ·rcases a5.out k e with b|b
  ·exact b
  ·omega
end
section
attribute [local go_sem] ak
theorem nF:∀(n z f y:Nat) (t:Tp.Tree) (d0:List Value) (av u:NS) (l di:List Tp.Nd) (A c1:List (Tp.B × Nat)) (i:Nat) (w:World),Tp.depth t<=n->xS w av t d0->zb t->yL w f y u l A->(∀k,av k->k < w.heap.size/\¬u k)->Glob w->(∀k,u k->10<=k)->Tp.lay z t (l,A)=W (i,di,c1)->(∀p∈A,p.1 ∉ yv t)->(yv t).Nodup->l.length<=200->n<=1000->
 Calls π 76 #[.pointer (W ⟨f,0,O⟩),γ d0.toArray,.int I (z:Int)] w (Au w f y u di c1 (.tuple #[.int I (i:Int),.nilIface]))
 |0,z,f,y,⟨k,name,x,keys,kids⟩,d0,av,u,l,di,A,c1,i,w,hd,_,_,_,_,_,_,_,_,_,_,_=>by unfold Tp.depth at hd;omega
 |n+1,z,f,y,⟨k,name,x,keys,kids⟩,d0,av,u,l,di,A,c1,i,w,hd,dv,hg,hL,hGS,hG,hS10,G,fE,hnd,hl2,hn=>by
  obtain⟨l4,f6,l1,ky,lc⟩:=info_parts mI;have hI:=λf y t d0 (av u:NS) l di A c1 i w F H be h4 h5 h6 h7 h8 h9 hV h11=>nF n (z+1) f y t d0 av u l di A c1 i w F H be h4 h5 h6 h7 h8 h9 hV h11 (by omega);unfold Tp.depth at hd;unfold xS at dv;unfold zb at hg;unfold Tp.lay at G;obtain⟨i0,hM,hQ,hy,ls,hE⟩:=hg;obtain⟨kv,lb,i5,rfl,ep,g7,gZ⟩:=dv;by_cases eM:24 < z\/Tp.shaped ⟨k,name,x,keys,kids⟩=false\/Tp.twice keys=true
  ·rw[if_pos eM]at G;cases G
  rw[if_neg eM]at G;have k2:z<=24:=by omega
  have ie:Tp.shaped ⟨k,name,x,keys,kids⟩=true:=by
   cases b:Tp.shaped ⟨k,name,x,keys,kids⟩ with
   |true=>rfl
   |false=>exact absurd (.inr (.inl b)) eM
  have h2:Tp.twice keys=false:=by
   cases b:Tp.twice keys with
   |false=>rfl
   |true=>exact absurd (.inr (.inr b)) eM
  clear eM;have gQ:=λc (ft:Far xO w c) (be:k=3->∃i,Tp.nameAt A name=W i) (l6:k≠3->l.length≠200)=>lf z f y k name x keys kids kv lb av u l A c (hL.far ft (λ_ _ e=>e)) (ep.far ft (λ_ _ _ e=>e)) (by obtain⟨a,jL,b,_⟩:=gZ.form;exact⟨a,jL,b⟩) (hG.far ft (λ_ _ e=>e)) (λk R=>zK (hGS k R).1 ft.size) i0 hM hQ ie h2 k2 be l6;obtain⟨X,ad,rfl,_⟩:=ep.form;obtain⟨cS,g,o,dg,rfl,i4,dc,ej⟩:=gZ.at
  have i9:=xU.len _ _ g7;have ln:kids.length<=9223372036854775807:=i4;have hp:∀j P,kids[j]? =W P->∃v:List Value,xS w av P v/\cS=W ⟨g,o,O⟩/\av g/\∀i,i < 7->∀co,v[i]? =W co->w.cell? ⟨g,o+j * 7+i,O⟩=W co:=λj P b=>by
   obtain⟨v,F,H⟩:=xU.at kids i5 j P g7 b;have hw:i5≠[]:=λe=>by
    have F:=(zM.1 b).1;have H:kids.length * 7=0:=by rw[<-i9,e];rfl
    omega
   exact⟨v,F,(dc hw).1,(dc hw).2.1,λi f6 co lg=>by rw[Nat.add_assoc];exact ej _ _ ((H i f6).trans lg)⟩
  obtain⟨al,e5⟩:∃T,xR name=.string T:=⟨_,rfl⟩;obtain⟨SX,fs⟩:∃T,xR x.s=.string T:=⟨_,rfl⟩;obtain⟨L,e4⟩:∃L,kids.length=L:=⟨_,rfl⟩;obtain⟨C,ek⟩:∃L,keys.length=L:=⟨_,rfl⟩;obtain⟨d,dm⟩:∃d,w.heap.size=d:=⟨_,rfl⟩;rw[e5,fs,e4,ek]at gQ;rw[ek]at ep hy;rw[e4]at ln ls;rw[e5,fs,e4,ek];have hv:Far xO w (((w.alloc (J #[.pointer (W ⟨f,0,O⟩)] 155)).alloc (J #[.int I k,.string al,.int I x.k,.int I x.n,.string SX,Y X C ad,Y cS L dg] 161)).alloc (J #[.int I (z:Int)] 3)):=(((ξ _ w).alloc _).alloc _).alloc _;have hb:(((w.alloc (J #[.pointer (W ⟨f,0,O⟩)] 155)).alloc (J #[.int I k,.string al,.int I x.k,.int I x.n,.string SX,Y X C ad,Y cS L dg] 161)).alloc (J #[.int I (z:Int)] 3)).heap[d]? =W (J #[.pointer (W ⟨f,0,O⟩)] 155 (0,0)):=by rw[<-dm];exact aa _ (aa _ (af w _))
  have hj:(((w.alloc (J #[.pointer (W ⟨f,0,O⟩)] 155)).alloc (J #[.int I k,.string al,.int I x.k,.int I x.n,.string SX,Y X C ad,Y cS L dg] 161)).alloc (J #[.int I (z:Int)] 3)).heap[d+1]? =W (J #[.int I k,.string al,.int I x.k,.int I x.n,.string SX,Y X C ad,Y cS L dg] 161 (0,0)):=aa _ (ah _ _ _ (by simp[dm]));have hZ:(((w.alloc (J #[.pointer (W ⟨f,0,O⟩)] 155)).alloc (J #[.int I k,.string al,.int I x.k,.int I x.n,.string SX,Y X C ad,Y cS L dg] 161)).alloc (J #[.int I (z:Int)] 3)).heap[d+1+1]? =W (J #[.int I (z:Int)] 3 (0,0)):=ah _ _ _ (by simp[dm]);have iw:(((w.alloc (J #[.pointer (W ⟨f,0,O⟩)] 155)).alloc (J #[.int I k,.string al,.int I x.k,.int I x.n,.string SX,Y X C ad,Y cS L dg] 161)).alloc (J #[.int I (z:Int)] 3)).heap.size=d+3:=by simp[dm]
  obtain⟨kd,kt,f1,eg,fY,e9⟩:=zx6 hI hp gQ hv hb hj;obtain⟨gN,e1,l0,fu,ho,iC⟩:=zx6 hZ dm iw hL hGS hG;obtain⟨lt,l3,l2⟩:=zx3 hS10 ep hE;have e8:=zD (θ fE hnd);have dJ:=zD (θ e4 ek);have e2:=zD (θ e5 fs);have j9:=zD hd;clear iw hI hp gQ hv hb hj hZ hL hGS hG hS10 ep hE fE hnd g7 gZ ej dc i9 i4 ie h2 hM i0 hd e4 ek e5 fs
  go_enter func76,ntmps76
  go_upto_region 1 with (fail)
  generalize (((w.alloc (J #[.pointer (W ⟨f,0,O⟩)] 155)).alloc (J #[.int I k,.string al,.int I x.k,.int I x.n,.string SX,Y X C ad,Y cS L dg] 161)).alloc (J #[.int I (z:Int)] 3))=fl at *;clear dm;obtain⟨d1,_⟩:=sS fY.out;obtain⟨a9,bn,bq,a5,bb,a4,b6,_⟩:=bd e9.out;obtain⟨fv,_⟩:=sS gN.out;by_cases d2:k=3
  ·subst d2
   rw[if_pos rfl]at G;obtain⟨dl,g2,f7⟩:=zN.1 G;cases f7
   go_wp2_with fail
   refine(f1.out fl eg.out (λ_=>⟨_,g2⟩) (λb=>absurd rfl b)).mono ?_;rintro e E ⟨rfl,e3⟩;have a0:Far xO fl E:=Far.of_below e3 xO;obtain⟨ao,kB,an,js,kg,df⟩:=fu.out;obtain⟨m1,m3,hi,hK⟩:=kA A name hQ y df.nd;obtain⟨_,rfl⟩:=hi i g2;have ck:=(df.far eg.out (λ_ _ e=>e)).far a0 (λ_ _ e=>e);have jK:=λn=>(hK _ (show xW π 9 (E.drewN n) y (yO A)from ck.map)).2;rw[e2.out.1]at jK;clear d1 a9 bn bq a5 bb a4 b6 fv hi hK;obtain⟨d1,_⟩:=sS (a0.heap fY.out id);obtain⟨a9,bn,bq,a5,bb,a4,b6,_⟩:=bd (a0.heap e9.out id);obtain⟨fw,d5,e7,_⟩:=bv ck.hd;have ds:=eg.out.trans a0;obtain⟨fc,e6⟩:=zx2 ck ds;clear df ck a0 e3 ds g2 G
   go_upto_region 5 with (fail)
   go_quiet (fail)
   go_wp2_with fail
   go_ret2
   have N:Far xO w (E.drewN nq):=e6.out.drewN nq;exact⟨rfl,u,⟨_,_,_,_,_,fc.out.far (show Far xO E (E.drewN nq)from (ξ _ E).drewN nq) (λ_ _ e=>e)⟩,λ_ b=>.inl b,N.mono (λ_ _ e=>e.elim)⟩
  ·rw[if_neg d2]at G
   by_cases fL:l.length=200
   ·rw[if_pos fL]at G;cases G
   rw[if_neg fL]at G;obtain⟨⟨dA,dW⟩,G,f7⟩:=zN.1 G;cases f7
   have m9:(k==3)=false:=by simpa using d2
   go_wp2_with fail
   refine(f1.out fl eg.out (λb=>absurd b d2) (λ_=>fL)).mono ?_;rintro e E ⟨rfl,e3⟩;have a0:Far xO fl E:=Far.of_below e3 xO;have ds:=eg.out.trans a0;obtain⟨ao,kB,an,js,kg,df⟩:=fu.out;have ck:=df.far ds (λ_ _ e=>e);obtain rfl:=df.sn;obtain⟨m,f8⟩:∃m,l.length=m:=⟨_,rfl⟩;clear d1 a9 bn bq a5 bb a4 b6 fv df;obtain⟨d1,_⟩:=sS (a0.heap fY.out id);obtain⟨a9,bn,bq,a5,bb,a4,b6,_⟩:=bd (a0.heap e9.out id);obtain⟨fv,_⟩:=sS (a0.heap gN.out id);have gk:=ck.hd;rw[f8]at gk fL G hl2;obtain⟨fw,d5,e7,_⟩:=bv gk;obtain⟨fc,e6,d3,hh,a6⟩:=zx5 ck ds a0 G f8;clear ck a0 e3 ds G gk f8 f1
   go_upto_region 7 with (fail)
   obtain⟨q,fz⟩:∃q,E.heap.size=q:=⟨_,rfl⟩;have N:Far xO E (E.alloc (J #[.int I (m:Int)] 3)):=(ξ _ E).alloc _;have hl:(E.alloc (J #[.int I (m:Int)] 3)).heap[q]? =W (J #[.int I (m:Int)] 3 (0,0)):=by rw[<-fz];exact af E _
   have h0:(E.alloc (J #[.int I (m:Int)] 3)).heap.size=q+1:=by rw[<-fz];exact Array.size_push ..
   have b0:(λc=>c.cell? ⟨d,0,O⟩=W (.pointer (W ⟨f,0,O⟩))/\c.cell? ⟨f,1,O⟩=W (Y ao m an)/\c.cell? ⟨d+1,0,O⟩=W (.int I k)/\c.cell? ⟨d+1,2,O⟩=W (.int I x.k)/\c.cell? ⟨d+1,3,O⟩=W (.int I x.n)/\c.cell? ⟨d+1,4,O⟩=W (.string SX)/\c.cell? ⟨d+1,5,O⟩=W (Y X C ad)) (E.alloc (J #[.int I (m:Int)] 3)):=⟨N.at d1 id,N.at d5 id,N.at a9 id,N.at bq id,N.at a5 id,N.at bb id,N.at a4 id⟩;rw[fz];have mL:d+3<=q:=by have F:=d3.out.size;have H:=l0.out;omega
   have hc:=fc.out.far N (λ_ _ e=>e);have hq:∀k,u k->k < d:=λk b=>by have:=fu.out.lt k b;rw[e1.out]at this;exact this
   obtain⟨dC,hH⟩:=zx2 hq hl;have gc:=zD ((d3.out.trans N).heap e9.out id);have ih:=zD ((d3.out.trans N).heap fY.out id);have lr:=zD ((d3.out.trans N).heap gN.out id);obtain⟨hu,er⟩:=zx2 h0 hc;have gd:=zD (e6.out.trans N);clear hq d1 a9 bn bq a5 bb a4 b6 fv fw d5 e7 N hl h0 hc fc e6 d3 fz;generalize (E.alloc (J #[.int I (m:Int)] 3))=D at *;have mp:D.heap.size=q+1:=hu.out;have gR:=k8 keys (Y X C ad) av D.drew (by rw[dJ.out.2];exact l3.out.far (gd.out.drew) (λ_ _ _ e=>e)) (by rw[dJ.out.2];exact hy);rw[dJ.out.2]at gR;have h3:=zD gR;clear gR;refine wp_region_noPanic ?_;refine ar (λc=>c.cell? ⟨d,0,O⟩=W (.pointer (W ⟨f,0,O⟩))/\c.cell? ⟨f,1,O⟩=W (Y ao m an)/\c.cell? ⟨d+1,0,O⟩=W (.int I k)/\c.cell? ⟨d+1,2,O⟩=W (.int I x.k)/\c.cell? ⟨d+1,3,O⟩=W (.int I x.n)/\c.cell? ⟨d+1,4,O⟩=W (.string SX)/\c.cell? ⟨d+1,5,O⟩=W (Y X C ad)) [22] (by kernel_rfl) ?_;refine ay 10 (by kernel_rfl) (λ_ _ _ _ b=>b) (show (λc=>c.cell? ⟨d,0,O⟩=W (.pointer (W ⟨f,0,O⟩))/\c.cell? ⟨f,1,O⟩=W (Y ao m an)/\c.cell? ⟨d+1,0,O⟩=W (.int I k)/\c.cell? ⟨d+1,2,O⟩=W (.int I x.k)/\c.cell? ⟨d+1,3,O⟩=W (.int I x.n)/\c.cell? ⟨d+1,4,O⟩=W (.string SX)/\c.cell? ⟨d+1,5,O⟩=W (Y X C ad)) D.drew from b0) 8 [0,1,2,3,4,5,6,7,8,9,10,11,12,13,14] _ _ (by kernel_rfl) ?_;iterate 15 (refine Ei ?_;(try go_frame))
   refine xT.done ?_;try dsimp only
   refine aq [15] ?_;refine aj rfl (λK S=>?_) xQ.nil
   go_simp
   refine h3.out.mono ?_;rintro e ac ⟨⟨r,rfl,g0⟩,hX⟩;obtain⟨el,d4,rfl,_⟩:=g0.form;have ba:Far xO D ac:=((ξ _ D).drew).below hX;have cf:(λc=>c.cell? ⟨d,0,O⟩=W (.pointer (W ⟨f,0,O⟩))/\c.cell? ⟨f,1,O⟩=W (Y ao m an)/\c.cell? ⟨d+1,0,O⟩=W (.int I k)/\c.cell? ⟨d+1,2,O⟩=W (.int I x.k)/\c.cell? ⟨d+1,3,O⟩=W (.int I x.n)/\c.cell? ⟨d+1,4,O⟩=W (.string SX)/\c.cell? ⟨d+1,5,O⟩=W (Y X C ad)) ac:=⟨ba.at b0.1 (id),ba.at b0.2.1 (id),ba.at b0.2.2.1 (id),ba.at b0.2.2.2.1 (id),ba.at b0.2.2.2.2.1 (id),ba.at b0.2.2.2.2.2.1 (id),ba.at b0.2.2.2.2.2.2 (id)⟩;have g3:=zD cf;refine S.out _ _ (λ_=>g3.out) ?_;clear S K b0 hX
   (try go_frame)
   refine ay 10 (by kernel_rfl) (λ_ _ _ _ b=>b) g3.out 6 [16] _ _ (by kernel_rfl) ?_;iterate 1 (refine Ei ?_;(try go_frame))
   refine xT.done ?_;try dsimp only
   refine aq [17] ?_;refine aj rfl (λK S=>?_) xQ.nil
   go_simp
   obtain⟨dj,e0⟩:∃c,ac.alloc (J #[.int I k,.int I x.k,.int I x.n,.string SX,Y el C d4,Y O 0 0] 185)=c:=⟨_,rfl⟩;have bm:Far xO ac dj:=by rw[<-e0];exact(ξ _ ac).alloc _
   have eq:dj.heap[ac.heap.size]? =W (J #[.int I k,.int I x.k,.int I x.n,.string SX,Y el C d4,Y O 0 0] 185 (0,0)):=by rw[<-e0];exact af ac _
   have k0:dj.heap.size=ac.heap.size+1:=by rw[<-e0];exact Array.size_push ..
   rw[e0];clear e0;have bs:(λc=>c.cell? ⟨d,0,O⟩=W (.pointer (W ⟨f,0,O⟩))/\c.cell? ⟨f,1,O⟩=W (Y ao m an)/\c.cell? ⟨d+1,0,O⟩=W (.int I k)/\c.cell? ⟨d+1,2,O⟩=W (.int I x.k)/\c.cell? ⟨d+1,3,O⟩=W (.int I x.n)/\c.cell? ⟨d+1,4,O⟩=W (.string SX)/\c.cell? ⟨d+1,5,O⟩=W (Y X C ad)) dj:=⟨bm.at cf.1 (id),bm.at cf.2.1 (id),bm.at cf.2.2.1 (id),bm.at cf.2.2.2.1 (id),bm.at cf.2.2.2.2.1 (id),bm.at cf.2.2.2.2.2.1 (id),bm.at cf.2.2.2.2.2.2 (id)⟩;have hC:=zD bs;refine S.out _ _ (λ_=>hC.out) ?_;clear S K cf
   (try go_frame)
   have fX:=ba.trans bm;have m2:=ba.size;have gl:=am er.out.row fX (λ_ _ e=>e);rw[a6.out]at gl;have l8:m<=199:=by omega
   refine aq [18] ?_;refine aj rfl (λK S=>?_) xQ.nil;refine wp_append_lies dj (.tmp 44) (.tmp 56) 52 rfl 0 185 l4 _ 6 88 underlying52 f6 l1 ky lc rfl (by decide) (Y ao m an) m _ rfl gl ⟨ac.heap.size,0,O⟩ 1 1 [.int I k,.int I x.k,.int I x.n,.string SX,Y el C d4,Y O 0 0] ?_ rfl ?_ ?_ (by omega) ?_ ?_ ?_ _ rfl ?_
   ·rfl
   ·intro kf co lR
    rw[gK];exact(ae eq kf).trans (by simpa using lR)
   ·simp[Value.oneCell']
   ·unfold maxLen;omega
   ·omega
   ·exact z_ _
   intro gg cap w5 hr ga g4 md;have dp:Far (λk=>(Value.slice ao m an).ownBlock=W k) D w5:=(fX.mono (λ_ _ e=>e.elim)).grown ga (λk e _=>e);have bk:Far (λk=>(Value.slice ao m an).ownBlock=W k) dj w5:=(ξ _ dj).grown ga (λk e _=>e);have es:∀k,(Value.slice ao m an).ownBlock=W k->u k/\k≠f:=λk e=>by
    have b:=er.out.ownL k (by rw[a6.out];exact e);exact⟨b.1,b.2.1⟩
   have bD:∀k,(Value.slice ao m an).ownBlock=W k->k < d:=λk e=>dC.out k (es k e).1;have fR:(λc=>c.cell? ⟨d,0,O⟩=W (.pointer (W ⟨f,0,O⟩))/\c.cell? ⟨f,1,O⟩=W (Y ao m an)/\c.cell? ⟨d+1,0,O⟩=W (.int I k)/\c.cell? ⟨d+1,2,O⟩=W (.int I x.k)/\c.cell? ⟨d+1,3,O⟩=W (.int I x.n)/\c.cell? ⟨d+1,4,O⟩=W (.string SX)/\c.cell? ⟨d+1,5,O⟩=W (Y X C ad)) w5:=⟨bk.at bs.1 (λe=>by have b:=bD _ e;dsimp only at b;omega),bk.at bs.2.1 (λe=>(es _ e).2 rfl),bk.at bs.2.2.1 (λe=>by have b:=bD _ e;dsimp only at b;omega),bk.at bs.2.2.2.1 (λe=>by have b:=bD _ e;dsimp only at b;omega),bk.at bs.2.2.2.2.1 (λe=>by have b:=bD _ e;dsimp only at b;omega),bk.at bs.2.2.2.2.2.1 (λe=>by have b:=bD _ e;dsimp only at b;omega),bk.at bs.2.2.2.2.2.2 (λe=>by have b:=bD _ e;dsimp only at b;omega)⟩;have kb:w5.frozen? ⟨f,1,O⟩=false:=ag (dp.heap er.out.hd (λe=>(es _ e).2 rfl)) 1;have f5:(Value.slice ao m an).ownBlock=W gg\/D.heap.size<=gg:=by
    rcases g4 with b|b
    ·exact .inl b
    ·right;have:=fX.size;omega
   have iY:∀k,D.heap.size<=k/\k < ac.heap.size->D.heap.size<=k/\k < w5.heap.size/\k≠gg:=λk b=>by
    have F:=bk.size;refine⟨b.1,by omega,?_⟩;rcases g4 with H|H
    ·have:=bD _ H;omega
    ·omega
   have hB:Row w5 (λk=>D.heap.size<=k/\k < ac.heap.size) C (Y el C d4) (xV keys):=((g0.mono (G':=λk=>D.heap.size<=k/\k < ac.heap.size) (λk F H=>⟨F,H⟩)).far bm (λ_ _ _ e=>e)).far bk (λk R _ e=>by have:=bD _ e;omega);obtain⟨a1,gr⟩:=er.out.node (x:=⟨k,x,keys,[]⟩) (KK:=λk=>D.heap.size<=k/\k < ac.heap.size) (gg:=gg) (cap:=cap) (kv:=Y el C d4) rfl (by rw[a6.out];exact dp) (by rw[dJ.out.2];exact hB) iY (by rw[a6.out,e2.out.2];exact hr) (by rw[a6.out];exact f5);rw[a6.out]at a1 gr;obtain⟨ch,f9⟩:∃ch:NS,(λk=>u k\/k=gg\/(D.heap.size<=k/\k < ac.heap.size))=ch:=⟨_,rfl⟩;rw[f9]at a1;have i3:∀k,ch k->u k\/q+1<=k:=λk b=>by
    rw[<-f9]at b;rcases b with b|b|b
    ·exact .inl b
    ·subst b
     rcases f5 with b|b
     ·exact .inl (es _ b).1
     ·right;omega
    ·right;omega
   have gf:RowKit.Hid (yL (w5.setCell ⟨f,1,O⟩ (Y (W ⟨gg,0,O⟩) (m+1) cap)) f y ch (l++[⟨k,x,keys,[]⟩]) A):=zD ⟨_,_,_,_,_,a1⟩;obtain⟨d6,gM,f2⟩:=zx3 gr i3 fR;have kk:=fR.2.1;refine S.out _ _ (λ_=>f2.out) ?_;clear S K hr ga g4 dp bk es bD bs fR f5 iY hB a1 gr f9 i3 g0 bm eq k0 fX gl ba
   (try go_frame)
   refine ay 10 (by kernel_rfl) (λ_ _ _ _ b=>b) f2.out 1 [19,20,21] _ _ (by kernel_rfl) ?_;iterate 3 (refine Ei ?_;(try go_frame))
   refine xT.done ?_;try dsimp only
   refine aq [22] ?_;refine aj rfl (λK S=>?_) xQ.nil
   go_simp
   refine S.out _ _ (λb=>absurd (by simp) b) ?_;clear S K
   (try go_frame)
   refine aP (by kernel_rfl) (NoPanic.normal ?_) _;generalize (w5.setCell ⟨f,1,O⟩ (Y (W ⟨gg,0,O⟩) (m+1) cap))=c6 at *;clear kk kb h3 er g3 hC f2 hu;obtain⟨a9,bn,bq,a5,bb,a4,b6,_⟩:=bd (d6.out.heap gc.out (λe=>by have:=dC.out _ e;omega));simp only[Exit.then]
   apply_assumption
   go_upto_if 64 with (fail)
   go_cut [9]from 61 (λen wx=>en=.pointer (W ⟨q,0,O⟩)/\yL wx f y ch (l++[⟨k,x,keys,[]⟩]) (if name.isEmpty then A else (name,m)::A)/\Far ch c6 wx)
   case first=>
    cases M:name.isEmpty with
    |true=>
     have ex:name=[]:=by simpa using M
     have g6:al.toList.isEmpty=true:=by
      have b:=e2.out.1;injection b with b;rw[<-b,cZ];exact M
     clear a9 bn bq a5 bb a4 b6;rw[g6]
     go_wp2_with fail
     go_meet
     case rel=>exact⟨rfl,by rw[if_pos M];exact gf.out,ξ _ _⟩
    |false=>
     have ex:name≠[]:=by simpa using M
     have g6:al.toList.isEmpty=false:=by
      have b:=e2.out.1;injection b with b;rw[<-b,cZ];exact M
     obtain⟨l9,mt,mK,nb,mb,a1⟩:=gf.out;obtain⟨mC,ht⟩:=o3 ⟨name.toArray⟩ (by show name.length<=_;omega);have gJ:∀p∈A,p.1≠name:=λp ab e=>e8.out.1 p ab (by
      unfold yv;rw[if_neg (by simp[d2,ex]),e];simp)
     obtain⟨f3,k6,iB,c2⟩:=(show xW π 9 c6.drew y (yO A)from a1.map).put lG underlying156 (xR name) (.int I (m:Int)) ht (λp ab e=>by
      obtain⟨k3,li,rfl⟩:=dO A p ab;exact gJ k3 li (fh e))
     rw[e2.out.1]at k6;have hY:=a1.name (i:=m) (s:=name) (w':=f3) iB ((ξ (·=y) c6).drew.trans c2) gJ;have dn:(λc=>c.cell? ⟨d,0,O⟩=W (.pointer (W ⟨f,0,O⟩))/\c.cell? ⟨f,2,O⟩=W (.map (W y))/\c.cell? ⟨d+1,1,O⟩=W (.string al)/\c.cell? ⟨q,0,O⟩=W (.int I (m:Int))) c6:=⟨ae (d6.out.heap ih.out (λe=>by have:=dC.out _ e;omega)) 0,ae a1.hd 2,bn,ae (d6.out.heap hH.out (λe=>by have:=dC.out _ e;omega)) 0⟩;have he:Far ch c6 f3:=((ξ (·=y) c6).drew.trans c2).mono (λk _ e=>e ▸ a1.smb);have hJ:(λc=>c.cell? ⟨d,0,O⟩=W (.pointer (W ⟨f,0,O⟩))/\c.cell? ⟨f,2,O⟩=W (.map (W y))/\c.cell? ⟨d+1,1,O⟩=W (.string al)/\c.cell? ⟨q,0,O⟩=W (.int I (m:Int))) f3:=by
      have g5:∀k,k=d\/k=d+1\/k=q->k≠y:=λk b e=>by
       have F:u y:=(fu.out).elim λ_ b=>b.elim λ_ b=>b.elim λ_ b=>b.elim λ_ b=>b.elim λ_ b=>b.smb;have:=dC.out y F;omega
      exact⟨c2.at dn.1 (g5 d (.inl rfl)),c2.at dn.2.1 a1.ne,c2.at dn.2.2.1 (g5 (d+1) (.inr (.inl rfl))),c2.at dn.2.2.2 (g5 q (.inr (.inr rfl)))⟩
     obtain⟨l5,jj,k1,kn⟩:=zx4 hY he dn hJ;clear a9 bn bq a5 bb a4 b6 hY he dn hJ a1 iB c2 gJ ht;rw[g6]
     go_upto_region 9 with (fail)
     refine wp_region_noPanic ?_;refine ar (λc=>c.cell? ⟨d,0,O⟩=W (.pointer (W ⟨f,0,O⟩))/\c.cell? ⟨f,2,O⟩=W (.map (W y))/\c.cell? ⟨d+1,1,O⟩=W (.string al)/\c.cell? ⟨q,0,O⟩=W (.int I (m:Int))) [] (by kernel_rfl) ?_;refine aJ (by kernel_rfl) (λ_ _ _ _ b=>b) (show (λc=>c.cell? ⟨d,0,O⟩=W (.pointer (W ⟨f,0,O⟩))/\c.cell? ⟨f,2,O⟩=W (.map (W y))/\c.cell? ⟨d+1,1,O⟩=W (.string al)/\c.cell? ⟨q,0,O⟩=W (.int I (m:Int))) c6.drew from k1.out) 1 [0,1,2,3,4,5,6,7] _ _ (by kernel_rfl) ?_;iterate 8 (refine Ei ?_;(try go_frame))
     refine xT.done ?_;try dsimp only
     refine aq [8] ?_;refine aj rfl (λK S=>?_) xQ.nil
     go_simp
     refine S.out _ _ (λ_=>kn.out) ?_;clear S K
     (try go_frame)
     refine aP (by kernel_rfl) (NoPanic.normal ?_) _
     go_wp2_with fail
     go_meet
     case rel=>exact⟨rfl,by rw[if_neg (by simp[M])];exact⟨_,_,_,_,_,l5.out⟩,jj.out⟩
   case rest=>
    obtain⟨rfl,hF,hN⟩:=hcut;have a3:Far (λk=>u k\/q+1<=k) D wc:=(d6.out.mono (λ_ _ e=>.inl e)).step hN (λk _ e=>gM.out k e);have dr:∀k,d<=k->k<=q->¬(u k\/q+1<=k):=λk F H e=>by
     rcases e with e|e
     ·have:=dC.out k e;omega
     ·omega
    obtain⟨a9,bn,bq,a5,bb,a4,b6,_⟩:=bd (a3.heap gc.out (dr _ (by omega) (by omega)));have hU:∀c,Far (λk=>u k\/q+1<=k) D c->c.heap[d]? =W (J #[.pointer (W ⟨f,0,O⟩)] 155 (0,0))/\c.heap[d+1+1]? =W (J #[.int I (z:Int)] 3 (0,0))/\c.heap[q]? =W (J #[.int I (m:Int)] 3 (0,0)):=λc b=>⟨b.heap ih.out (dr _ (by omega) (by omega)),b.heap lr.out (dr _ (by omega) (by omega)),b.heap hH.out (dr _ (by omega) (by omega))⟩;have hT:=hh.out;have ex:(l++[(⟨k,x,keys,[]⟩:Tp.Nd)])[m]? =W ⟨k,x,keys,[]⟩:=by rw[zV (by rw[a6.out];omega),a6.out,Nat.sub_self];rfl
    have iv:(l++[(⟨k,x,keys,[]⟩:Tp.Nd)]).length<=200:=by rw[zP,a6.out];show m+1<=200;omega
    have hf:(∀p∈(if name.isEmpty then A else (name,m)::A),p.1 ∉ yl kids)/\(yl kids).Nodup:=by
     have F:=e8.out.1;have H:=e8.out.2;unfold yv at F H;have be:=List.nodup_append.1 H;refine⟨λp ab cl=>?_,be.2.1⟩;by_cases dc:name.isEmpty=true
     ·rw[if_pos dc]at ab
      exact F p ab (List.mem_append_right _ cl)
     ·rw[if_neg dc]at ab
      rcases List.mem_cons.1 ab with rfl|ab
      ·have fE:¬(k=3\/name=[]):=by simp[d2];simpa using dc
       rw[if_neg fE]at be;exact be.2.2 name (by simp) name cl rfl
      ·exact F p ab (List.mem_append_right _ cl)
    have hW:yL wc f y ch (l++[(⟨k,x,keys,[]⟩:Tp.Nd)]) (if name.isEmpty then A else (name,m)::A):=hF;have i8:=gM.out;have db:=zD (θ hT (θ ex (θ iv (θ hf (θ hW (θ i8 a3))))));obtain⟨i6,ks⟩:=zx2 hU dr;clear hT ex iv hf hW i8 a3 hF hN hU dr gM d6 gf hh e8 gc
    go_wp2_with fail
    go_loopw [78] (λen wr=>∃(r:Nat) (c9:NS) (b2:List Tp.Nd) (cv:List (Tp.B × Nat)) (fT:Tp.Nd),en=.int I (r:Int)/\r<=L/\Tp.layL (z+1) m (kids.drop r) (b2,cv)=W (di,c1)/\b2[m]? =W fT/\fT.kids.length=r/\b2.length<=200/\((∀p∈cv,p.1 ∉ yl (kids.drop r))/\(yl (kids.drop r)).Nodup)/\yL wr f y c9 b2 cv/\(∀k,c9 k->u k\/q+1<=k)/\Far (λk=>u k\/q+1<=k) D wr) (λen _=>L - (Lib.intOf en).toNat)
    case atStart=>exact⟨0,ch,_,_,_,rfl,z_ _,by rw[List.drop_zero];exact db.out.1,db.out.2.1,rfl,db.out.2.2.1,by rw[List.drop_zero];exact db.out.2.2.2.1,db.out.2.2.2.2.1,db.out.2.2.2.2.2.1,db.out.2.2.2.2.2.2⟩
    case round=>
     obtain⟨r,c9,b2,cv,fT,rfl,m4,a2,gx,hk,gO,M,fG,da,a3⟩:=hrel;by_cases hS:r < L
     ·obtain⟨P,ei⟩:∃P,kids[r]? =W P:=⟨_,zE (by rw[dJ.out.1];exact hS)⟩
      rw[aE kids r P ei]at a2 M;unfold Tp.layL at a2;unfold yl at M;cases c0:Tp.lay (z+1) P (b2,cv) with
      |none=>rw[c0]at a2;cases a2
      |some vv=>
      obtain⟨dl,dA,dW⟩:=vv;rw[c0]at a2;simp only at a2;obtain⟨v,dv,rfl,jW,ct⟩:=kt.out r P ei;have kr:=gp kids r P ei;obtain⟨b3,b1,ca,cb,b4,b9,bx,b8,bw,bR,cc,rfl⟩:=dv.form;have fn:∀k,av k->¬(u k\/q+1<=k):=λk R e=>by
       have:=ho.out k R;rcases e with e|e
       ·exact this.2 e
       ·have:=e1.out;omega
      have ha:Far (λk=>u k\/q+1<=k) w wr:=(gd.out.mono (λ_ _ e=>e.elim)).trans a3;have cm:∀i co,w.cell? ⟨g,o+r * 7+i,O⟩=W co->wr.cell? ⟨g,o+r * 7+i,O⟩=W co:=λi co b=>ha.at b (fn g jW);have fw:wr.cell? ⟨g,o+r * 7,O⟩=W (.int I b3):=cm 0 _ (ct 0 (by omega) _ rfl);have d5:wr.cell? ⟨g,o+r * 7+1,O⟩=W (.string b1):=cm 1 _ (ct 1 (by omega) _ rfl);have e7:wr.cell? ⟨g,o+r * 7+2,O⟩=W (.int I ca):=cm 2 _ (ct 2 (by omega) _ rfl);have c3:wr.cell? ⟨g,o+r * 7+3,O⟩=W (.int I cb):=cm 3 _ (ct 3 (by omega) _ rfl);have c4:wr.cell? ⟨g,o+r * 7+4,O⟩=W (.string b4):=cm 4 _ (ct 4 (by omega) _ rfl);have c5:wr.cell? ⟨g,o+r * 7+5,O⟩=W (Y b9 bx b8):=cm 5 _ (ct 5 (by omega) _ rfl);have la:wr.cell? ⟨g,o+r * 7+6,O⟩=W (Y bw bR cc):=cm 6 _ (ct 6 (by omega) _ rfl);have k4:(r:Int) < (L:Int):=by omega
      have ml:(0:Int)<=(r:Int):=by omega
      obtain⟨cT,gj⟩:∃c,wr.alloc (J (#[.int I b3,.string b1,.int I ca,.int I cb,.string b4,Y b9 bx b8,Y bw bR cc]) 78)=c:=⟨_,rfl⟩;have f4:Far xO wr cT:=by rw[<-gj];exact(ξ _ wr).alloc _
      have h1:cT.heap[wr.heap.size]? =W (J (#[.int I b3,.string b1,.int I ca,.int I cb,.string b4,Y b9 bx b8,Y bw bR cc]) 78 (0,0)):=by rw[<-gj];exact af wr _
      have f0:Far (λk=>u k\/q+1<=k) D cT:=a3.step f4 (λ_ _ e=>e.elim);have lQ:=(f0.alloc (J (#[.int I b3,.string b1,.int I ca,.int I cb,.string b4,Y b9 bx b8,Y bw bR cc]) 78));have g8:Far xO wr (cT.alloc (J (#[.int I b3,.string b1,.int I ca,.int I cb,.string b4,Y b9 bx b8,Y bw bR cc]) 78)):=f4.alloc _;have fS:Far (λk=>u k\/q+1<=k) w (cT.alloc (J (#[.int I b3,.string b1,.int I ca,.int I cb,.string b4,Y b9 bx b8,Y bw bR cc]) 78)):=ha.step g8 (λ_ _ e=>e.elim);obtain⟨hR,hP,ef⟩:=i6.out cT f0;have fr:∀k,d<=k->k<=q->¬c9 k:=λk F H e=>ks.out k F H (da k e);have gb:∀k,u k\/q+1<=k->10<=k:=λk e=>by
       rcases e with e|e
       ·exact lt.out k e
       ·have hV:=iC.out.1;have:=e1.out;omega
      have ej:=kd.out f y P [.int I b3,.string b1,.int I ca,.int I cb,.string b4,Y b9 bx b8,Y bw bR cc] av c9 b2 dA cv dW dl (cT.alloc (J (#[.int I b3,.string b1,.int I ca,.int I cb,.string b4,Y b9 bx b8,Y bw bR cc]) 78)) (by have:=j9.out;omega) (xS.far fS (λk R _=>fn k R) _ _ dv) (yE.at kids r P l2.out ei) (fG.far g8 (λ_ _ e=>e)) (λk R=>⟨zK (ho.out k R).1 fS.size,λe=>fn k R (da k e)⟩) (iC.out.far fS (λk R e=>by have:=gb k e;omega)) (λk R=>gb k (da k R)) c0 (λp ab cl=>M.1 p ab (List.mem_append_left _ cl)) (List.nodup_append.1 M.2).1 gO;have g1:=vz c0 gx;have i1:=oX f y d (d+1+1) q m z dl [.int I b3,.string b1,.int I ca,.int I cb,.string b4,Y b9 bx b8,Y bw bR cc] c9 dA dW fT cT ⟨_,_,_,_,_,_,_,_,_,_,_,rfl⟩ hR hP ef ⟨fr d (by omega) (by omega),fr _ (by omega) (by omega),fr q (by omega) (by omega)⟩ (by omega) g1 (by omega) ej;have eq:(∀p∈dW,p.1 ∉ yl (kids.drop (r+1)))/\(yl (kids.drop (r+1))).Nodup:=by
       obtain⟨_,l7,_⟩:=lay_ext P (z+1) b2 cv dl dA dW c0;have be:=List.nodup_append.1 M.2;refine⟨λp ab cl=>?_,be.2.1⟩;rcases l7 p ab with b|b
       ·exact M.1 p b (List.mem_append_right _ cl)
       ·exact be.2.2 p.1 b p.1 cl rfl
      have hz:(Tp.addKid m dl dA).length<=200:=by
       unfold Tp.addKid;rw[List.length_modify];exact(lay_ext P (z+1) b2 cv dl dA dW c0).2.2 gO
      have i7:=sO dl g1;have hm:=zD i1;have b5:=zD (θ a2 (θ i7 (θ hz (θ eq (θ da (θ f0 hk))))));obtain⟨kl,ka,jb,k5,kc,le,jw,_⟩:=bd h1;clear i1 a2 i7 hz eq da f0 lQ ej g1 c0 M fG a3 gO dv ct cm fn ha f4 h1 g8 fS hR hP ef fr gb gx kr ei hk
      go_wp2_with fail
      refine hm.out.mono ?_;rintro e w5 ⟨rfl,hA,hD,hx,dp⟩;have fR:=b5.out.2.2.2.2.2.1.size;have it:∀k,hA k->u k\/q+1<=k:=λk b=>by
       rcases hx k b with b|b
       ·exact b5.out.2.2.2.2.1 k b
       ·right;omega
      have i2:Far (λk=>u k\/q+1<=k) D w5:=b5.out.2.2.2.2.2.1.step dp (λk _ e=>b5.out.2.2.2.2.1 k e);have kh:=zD (θ hD (θ it i2));clear hD hx dp it i2 hm fw d5 e7 c3 c4 c5 la kl ka jb k5 kc le jw gj
      go_wp2_with fail
      go_roundw
      case rel=>exact⟨r+1,hA,_,_,_,by go_num,hS,b5.out.1,b5.out.2.1,by rw[zP,b5.out.2.2.2.2.2.2];rfl,b5.out.2.2.1,b5.out.2.2.2.1,kh.out⟩
      case measure=>simp[Lib.intOf];omega
     ·obtain rfl:r=L:=by omega
      rw[List.drop_of_length_le (by rw[dJ.out.1];exact η _)]at a2;unfold Tp.layL at a2;cases a2
      have k4:¬(r:Int) < (r:Int):=by omega
      obtain⟨_,_,ef⟩:=i6.out wr a3;obtain⟨nd,_⟩:=sS ef;have hs:Far u w wr:=(gd.out.mono (D':=u) (λ_ _ e=>e.elim)).step a3 (λk R e=>by
       rcases e with e|e
       ·exact e
       ·have:=e1.out;omega)
      have ge:=zD (θ fG (θ da hs));clear fG da hs a3 M gx ef
      go_wp2_with fail
      go_ret2
      exact⟨by rw[a6.out];rfl,c9,ge.out.1,λk R=>by
       rcases ge.out.2.1 k R with b|b
       ·exact .inl b
       ·right;have:=e1.out;omega,ge.out.2.2⟩
end
section
attribute [local go_sem] ak
theorem kp{w:World}{a:NS}:∀(l:List Tp.Nd) (b:List (Value × Value)),b.length=l.length->(∀(i:Nat) (x:Tp.Nd) (p:Value × Value),l[i]? =W x->b[i]? =W p->Row w a x.keys.length p.1 (xV x.keys)/\Row w a x.kids.length p.2 (xP x.kids))->xX w a l (yf l b)
 | [],[],_,_=>by unfold xX yf;rfl
 | [],_::_,h,_=>by simp at h
 |_::_,[],h,_=>by simp at h
 |x::r,p::s,h,hh=>by
  unfold xX yf;obtain⟨g,f⟩:=hh 0 x p rfl rfl;exact⟨p.1,p.2,_,rfl,g,f,kp r s (by simpa using h) (λi c q e d=>hh (i+1) c q (by simpa using e) (by simpa using d))⟩
theorem yL.gr{c:NS}{w:World}{f e:Nat}{l:List Tp.Nd}{m:List (Tp.B × Nat)}(q:yL w f e c l m):∃v,w.heap[f]? =W (J #[V I 0,v,.map (W e)] 158 (0,0))/\yc w c l v:=by
 obtain⟨s,r,t,d,u,a⟩:=q;obtain rfl:=a.sn;refine⟨_,a.hd,yf l d,(cx a.row).mono (λk b _=>(a.ownL k b).1),kp l d a.len (λi x p o g=>?_)⟩;obtain⟨n,j⟩:=a.nds i x p o g;exact⟨n.mono (λk b _=>(a.kg k b).1),(cx j).mono (λk b _=>(a.ownK i p k g b).1)⟩
theorem sQ(t:Tp.Tree)(an:List Value)(N:NS)(g:List Tp.Nd)(w:World)(R:xS w N t an)(a6:zb t)(M:Glob w)(G:∀k,N k->k < w.heap.size)(S:Tp.graph t=W g)(bq:(yv t).Nodup)(cb:Tp.depth t<=900):
 Calls π 55 #[γ an.toArray] w λe w'=>(∃ba,e=ρ (.tuple #[γ #[.int I 0,ba],.int I 0])/\yc w' (New w) g ba)/\Below w.heap.size w w':=by
 obtain⟨a,A⟩:∃a,w.heap.size=a:=⟨_,rfl⟩;unfold Tp.graph at S;obtain⟨⟨i,a1,b0⟩,av,b9⟩:=zN.1 S;clear S;cases b9
 obtain⟨n,l,u,y,s,r,f,o,d,m,c,rfl⟩:=R.form;have C:Far xO w ((((w.alloc (J #[.int I n,.string l,.int I u,.int I y,.string s,Y r f o,Y d m c] 78)).alloc (J #[.int I 0,Y O 0 0] 54)).alloc (.map #[] 0)).alloc (J #[.int I 0,Y O 0 0,.map (W (a+1+1))] 158)):=((((ξ _ w).alloc _).alloc _).alloc _).alloc _;have al:((((w.alloc (J #[.int I n,.string l,.int I u,.int I y,.string s,Y r f o,Y d m c] 78)).alloc (J #[.int I 0,Y O 0 0] 54)).alloc (.map #[] 0)).alloc (J #[.int I 0,Y O 0 0,.map (W (a+1+1))] 158)).heap[a]? =W (J #[.int I n,.string l,.int I u,.int I y,.string s,Y r f o,Y d m c] 78 (0,0)):=by rw[<-A];exact aa _ (aa _ (aa _ (af w _)))
 have a0:((((w.alloc (J #[.int I n,.string l,.int I u,.int I y,.string s,Y r f o,Y d m c] 78)).alloc (J #[.int I 0,Y O 0 0] 54)).alloc (.map #[] 0)).alloc (J #[.int I 0,Y O 0 0,.map (W (a+1+1))] 158)).heap[a+1]? =W (J #[.int I 0,Y O 0 0] 54 (0,0)):=aa _ (aa _ (ah _ _ _ (by simp[A])));have bw:((((w.alloc (J #[.int I n,.string l,.int I u,.int I y,.string s,Y r f o,Y d m c] 78)).alloc (J #[.int I 0,Y O 0 0] 54)).alloc (.map #[] 0)).alloc (J #[.int I 0,Y O 0 0,.map (W (a+1+1))] 158)).heap[a+1+1+1]? =W (J #[.int I 0,Y O 0 0,.map (W (a+1+1))] 158 (0,0)):=ah _ _ _ (by simp[A]);have a9:xW π 9 ((((w.alloc (J #[.int I n,.string l,.int I u,.int I y,.string s,Y r f o,Y d m c] 78)).alloc (J #[.int I 0,Y O 0 0] 54)).alloc (.map #[] 0)).alloc (J #[.int I 0,Y O 0 0,.map (W (a+1+1))] 158)) (a+1+1) []:=by
  have b:=aL (P:=π) (K:=9) ((w.alloc (J #[.int I n,.string l,.int I u,.int I y,.string s,Y r f o,Y d m c] 78)).alloc (J #[.int I 0,Y O 0 0] 54));rw[show ((w.alloc (J #[.int I n,.string l,.int I u,.int I y,.string s,Y r f o,Y d m c] 78)).alloc (J #[.int I 0,Y O 0 0] 54)).heap.size=a+1+1 by simp[A]]at b;exact b.far ((ξ xO _).alloc _) id
 have L:((((w.alloc (J #[.int I n,.string l,.int I u,.int I y,.string s,Y r f o,Y d m c] 78)).alloc (J #[.int I 0,Y O 0 0] 54)).alloc (.map #[] 0)).alloc (J #[.int I 0,Y O 0 0,.map (W (a+1+1))] 158)).heap.size=a+4:=by simp[A]
 have a2:yL ((((w.alloc (J #[.int I n,.string l,.int I u,.int I y,.string s,Y r f o,Y d m c] 78)).alloc (J #[.int I 0,Y O 0 0] 54)).alloc (.map #[] 0)).alloc (J #[.int I 0,Y O 0 0,.map (W (a+1+1))] 158)) (a+1+1+1) (a+1+1) (λk=>k=a+1+1+1\/k=a+1+1) [] []:=⟨O,0,0,[],λ_=>False,bw,World.ownsRow_nil _ _ _ _,rfl,λi x p b=>by simp at b,λk b=>by simp[Value.ownBlock]at b,λi p k b=>by simp at b,λi j p q k _ b=>by simp at b,λk b=>b.elim,a9,by simp,λk b=>by rw[L];omega,.inl rfl,.inr rfl,by omega⟩;have ca:=M.1;have a3:=nF 900 1 (a+1+1+1) (a+1+1) t [.int I n,.string l,.int I u,.int I y,.string s,Y r f o,Y d m c] N (λk=>k=a+1+1+1\/k=a+1+1) [] a1 [] b0 i ((((w.alloc (J #[.int I n,.string l,.int I u,.int I y,.string s,Y r f o,Y d m c] 78)).alloc (J #[.int I 0,Y O 0 0] 54)).alloc (.map #[] 0)).alloc (J #[.int I 0,Y O 0 0,.map (W (a+1+1))] 158)) cb (xS.far C (λ_ _ _ e=>e) _ _ R) a6 a2 (λk z=>⟨zK (G k z) C.size,λe=>by have:=G k z;omega⟩) (M.far C (λ_ _ e=>e)) (λk z=>by omega) av (by simp) bq (by simp) (by omega);obtain⟨bk,ab,b4,ac,bR⟩:=zx5 a3 C a0 A L;obtain⟨bD,b6,cf,b3,bx,b1,ch,_⟩:=bd al;have cS:=@run_makeMap π;clear L a3 C al a0 bw a9 a2 R a6 M G av bq ca
 go_enter func55,ntmps55
 go_upto_region 2 with (fail)
 clear A;generalize ((((w.alloc (J #[.int I n,.string l,.int I u,.int I y,.string s,Y r f o,Y d m c] 78)).alloc (J #[.int I 0,Y O 0 0] 54)).alloc (.map #[] 0)).alloc (J #[.int I 0,Y O 0 0,.map (W (a+1+1))] 158))=co at *
 go_wp2_with fail
 refine bk.out.mono ?_;rintro e cc ⟨rfl,b8,be,bn,F⟩;obtain⟨v,X,E⟩:=be.gr;obtain⟨ao,bs,rfl,_⟩:=E.form;obtain⟨D,bb⟩:∃D,a1.length=D:=⟨_,rfl⟩;rw[bb]at X E;have ad:=F.heap b4.out (by omega);obtain⟨cv,cm,_⟩:=bv X;obtain⟨ct,cl,u0,u1⟩:=bO ad;obtain⟨bm,H⟩:=wZ ad (.int I 0) (Y ao D bs);have T:∀k,b8 k->a<=k/\k≠a+1:=λk z=>by
  rcases bn k z with b|b
  ·omega
  ·have:=bR.out;omega
 have a5:=(E.far H (λk z _ e=>(T k z).2 e)).mono (G':=New w) (λk z _=>by have:=T k z;have:=ac.out;show w.heap.size<=k;omega);have a4:Below w.heap.size w ((cc.setCell ⟨a+1,0,O⟩ (.int I 0)).setCell ⟨a+1,1,O⟩ (Y ao D bs)):=((ab.out.to_below (η _) (λ_ _ e=>e)).trans (F.to_below ab.out.size (λk z e=>by have:=ac.out;omega))).trans (H.to_below (by have:=ab.out.size;have:=F.size;omega) (λk z e=>by have:=ac.out;omega));obtain⟨b2,b5,ck⟩:=zx3 a5 a4 bm;clear a5 a4 bm H ad E X be bn F bk T bD b6 cf b3 bx b1 ch bb
 go_wp2_with fail
 exact bodyPost_ret (fA results55 _ (a+1) _ _ _ ck.out rfl) rfl ⟨⟨_,rfl,b2.out⟩,b5.out⟩
end
section
attribute [local go_sem] ak
theorem uz(a:World):(Instr.typeAssert (.iface 310 (γ #[])) 308 310 true).run π a=.ok (.tuple #[γ #[],β true]) a:=by kernel_rfl
theorem uy(a:World):(Instr.typeAssert (.iface 311 (γ #[])) 308 311 true).run π a=.ok (.tuple #[γ #[],β true]) a:=by kernel_rfl
def asT(a:Bool):Nat:=if a then 311 else 310
def asV(a:Bool):Value:=.iface (asT a) (γ #[])
def asF(a:Bool):Nat:=if a then 387 else 386
theorem qq(a:World):Calls π 386 #[γ #[],.iface 310 (γ #[])] a λe w'=>e=ρ (β true)/\Below a.heap.size a w':=by
 have b:=uz
 go_enter func386,ntmps386
 go_wp2_with fail
 go_ret
 exact⟨rfl,((ζ _ _).alloc (η _) _).alloc (by simp) _⟩
theorem qo(a:World):Calls π 387 #[γ #[],.iface 311 (γ #[])] a λe w'=>e=ρ (β true)/\Below a.heap.size a w':=by
 have b:=uy
 go_enter func387,ntmps387
 go_wp2_with fail
 go_ret
 exact⟨rfl,((ζ _ _).alloc (η _) _).alloc (by simp) _⟩
def A8(d:List Tp.En)(c:NS)(t:Nat)(a:Array Value)(b:NS)(f:World):Prop:=(∃e v,d[t]? =W e/\a=#[γ #[V I e.no,V I e.col,v]]/\Row f c e.l.length v (xZ e.l))/\b=xO
def AX(a:Bool)(l:List Tp.Tk):Prop:=Tp.isDash l=(!a)/\(a=true->Tp.isKey l=true)
theorem ji{d:Bool}{l:List Tp.Tk}(c:AX d l):zc l=asV d/\Tp.isName1 l=false:=by
 unfold zc asV asT;rw[c.1];cases d with
 |true=>
  have a:=c.2 rfl;refine⟨by simp[a],?_⟩
  match l,a with
  | [],a=>simp[Tp.isKey]at a
  | [t],a=>simp[Tp.isKey]at a
  |t::u::r,_=>rfl
 |false=>
  refine⟨by simp,?_⟩;have b:=c.1
  match l,b with
  | [],b=>simp[Tp.isDash]at b
  | [t],b=>simp[Tp.isDash]at b;simp[Tp.isName1,b]
  |t::u::r,_=>rfl
def Ay(b:Nat)(a:World):Nat:=match a.cell? ⟨b,0,O⟩with|some (Y _ n _)=>n|_=>0
theorem yp.len_at{f:NS}{w:World}{a i g:Nat}{b:List Tp.En}(d:yp w a i g f b):Ay a w=b.length:=by
 obtain⟨⟨T,c,cap,e,_⟩,_⟩:=d;unfold Ay;rw[show w.cell? ⟨a,0,O⟩=W (Y c b.length cap)from ae e 0]
theorem jS(d:Bool)(L:List Tp.En)(f:Int)(y:Nat)(ab:NS)(E j g:Nat)(w:World)(C:w.heap[E]? =W (.cells #[Z (W ⟨y,0,O⟩)] 149 (0,0)))(N:w.heap[j]? =W (.cells #[V I f] 3 (0,0)))(D:w.heap[g]? =W (.cells #[asV d] 308 (0,0)))(c3:∀e∈L,e.col=f/\AX d e.l):
 yQ π 235 #[Z (W ⟨E,0,O⟩),Z (W ⟨j,0,O⟩),Z (W ⟨g,0,O⟩)] 3 L.length (A8 L ab) xO (λk=>k=E\/k=j\/k=g) True (λt b=>∃a3 be,yp b y a3 be ab (L.drop t)) (λ_=>True) w:=by
 intro l J ex dW b ad b8 hF0 bm dg i bw da;have dj:=(ad.block _ (lt_of_heap C)).trans C;have cv:=(ad.block _ (lt_of_heap N)).trans N;have c1:=(ad.block _ (lt_of_heap D)).trans D;obtain⟨B,bR⟩:∃B,w.heap.size=B:=⟨_,rfl⟩;obtain⟨al,b2⟩:∃al,L.length=al:=⟨_,rfl⟩;rw[bR]at bm dg;rw[b2]at bw ⊢;have ck:=ad.size;rw[bR]at ck;obtain⟨ej,bD,c9,ep,a5,dA⟩:=zx6 bw i bm c3 b2 dj;obtain⟨el,ef,dJ,eg⟩:=zx4 cv c1 da hF0;clear bw i bm dg c3 b2 C N D dj cv c1 da hF0 ad b8 bR
 go_enter func235,ntmps235
 go_wp2_with fail
 go_step3
 go_wp2_with fail
 go_step3
 go_wp2_with fail
 go_loopw [6] (λ_ wr=>∃(t:Nat) (u:NS),t<=al/\J t u wr/\wr.heap[E]? =W (.cells #[Z (W ⟨y,0,O⟩)] 149 (0,0))/\wr.heap[j]? =W (.cells #[V I f] 3 (0,0))/\wr.heap[g]? =W (.cells #[asV d] 308 (0,0))/\(∀k,u k->k≠E/\k≠j/\k≠g)/\B<=wr.heap.size) (λ_ wr=>Ay y wr)
 case atStart=>exact⟨0,dW,z_ _,dJ.out,dA.out,el.out,ef.out,λk c=>by have:=(eg.out k c).2;exact⟨λe=>this (.inl e),λe=>this (.inr (.inl e)),λe=>this (.inr (.inr e))⟩,ck⟩
 case round=>
  obtain⟨t,u,eM,P,C,N,D,bs,b8⟩:=hrel;obtain⟨a3,be,G⟩:=(bD.out t u wr P).1;have bk:=G.len_at
  rw[zZ,a5.out]at bk;have d6:=zD bk;clear bk;have bx:=(bD.out t u wr P).2 trivial;have e4:=zF C 0 rfl;by_cases a2:t < al
  ·obtain⟨e,a9⟩:∃e,L[t]? =W e:=⟨_,zE (by rw[a5.out];exact a2)⟩
   rw[aE L t e a9]at G;obtain⟨v,ba,R⟩:=cM y a3 be ab e _ wr G;obtain⟨m,o,p,rfl⟩:∃a n cb,v=Y a n cb:=by obtain⟨a,_,_,cb,c,_⟩:=ba;exact⟨_,_,_,c⟩
   obtain⟨a4,cc⟩:=ep.out e (zL a9);obtain⟨c0,b5⟩:=ji cc;have bn:=λb (T:Far xO wr b)=>cr e.no e.col (Y m o p) e.l ab b (ba.far T (λ_ _ _ e=>e)) b5;rw[c0,a4]at bn;rw[a4]at R;have df:=λb (T:Far xO wr b)=>ej.out t a2 u xO #[γ #[V I e.no,V I f,Y m o p]] b (c9.out t u wr b P (T.mono (λ_ _ e=>e.elim))) ⟨⟨e,_,a9,by rw[a4],ba.far T (λ_ _ _ e=>e)⟩,rfl⟩ (λk c=>c.elim);obtain⟨av,d5,d2⟩:=zx3 R bn df;have A:=zD (θ C (θ N D));obtain⟨S,b1⟩:=zx2 bs bx;clear R bn df ba a4 cc c0 b5 a9 G C N D bs bx P
   go_wp2_with fail
   refine av.out.mono ?_;rintro x z ⟨rfl,X⟩;have a1:Far xO wr (z.alloc (.cells #[V I e.no,V I f,Y m o p] 220)):=(Far.of_below X xO).alloc _;have ao:=af z (.cells #[V I e.no,V I f,Y m o p] 220);obtain⟨q,cf⟩:∃q,z.heap.size=q:=⟨_,rfl⟩;rw[cf]at ao;have e2:wr.heap.size<=q:=by have:=X.size;omega
   go_upto_region 1 with (fail)
   have di:(λb=>b.cell? ⟨q,0,O⟩=W (V I e.no)/\b.cell? ⟨q,1,O⟩=W (V I f)/\b.cell? ⟨q,2,O⟩=W (Y m o p)/\b.cell? ⟨j,0,O⟩=W (V I f)/\b.cell? ⟨g,0,O⟩=W (.iface (asT d) (γ #[]))) (z.alloc (.cells #[V I e.no,V I f,Y m o p] 220)):=⟨ae ao 0,ae ao 1,ae ao 2,ae (a1.heap A.out.2.1 id) 0,ae (a1.heap A.out.2.2 id) 0⟩;generalize (z.alloc (.cells #[V I e.no,V I f,Y m o p] 220))=ac at *;obtain⟨r,db⟩:=zx2 di a1;clear di a1 ao cf X av;have dv:∀b,(Go.method 653 (asT d) (γ #[]) "sigillary/block.isSame").run π b=.ok (asF d,γ #[]) b:=λb=>by cases d<;>kernel_rfl
   have eq:∀b,(nilAhead 653 (asT d) (γ #[]) "sigillary/block.isSame").run π b=.ok (W false) b:=λb=>by cases d<;>kernel_rfl
   refine wp_region_noPanic ?_;refine(wpIn_wide (n:=4)).1 ?_;refine cK (λb=>b.cell? ⟨q,0,O⟩=W (V I e.no)/\b.cell? ⟨q,1,O⟩=W (V I f)/\b.cell? ⟨q,2,O⟩=W (Y m o p)/\b.cell? ⟨j,0,O⟩=W (V I f)/\b.cell? ⟨g,0,O⟩=W (.iface (asT d) (γ #[]))) [] (by kernel_rfl) ?_;refine fV (by kernel_rfl) (λ_ _ _ _ c=>c) (show (λb=>b.cell? ⟨q,0,O⟩=W (V I e.no)/\b.cell? ⟨q,1,O⟩=W (V I f)/\b.cell? ⟨q,2,O⟩=W (Y m o p)/\b.cell? ⟨j,0,O⟩=W (V I f)/\b.cell? ⟨g,0,O⟩=W (.iface (asT d) (γ #[]))) ac.drew from r.out) 10 [0,1,2,3,4,5,6,7,8,9,10,12,13,14] _ _ (by kernel_rfl) ?_;iterate 14 (refine Ei ?_;(try go_frame))
   refine xT.done ?_;try dsimp only
   refine dQ [11] (by kernel_rfl) (by simp) ?_;refine yj.cons rfl (by kernel_rfl) (λK i=>?_) yj.nil
   go_simp
   refine⟨trivial,callsIn_wide.2 ((d5.out _ db.out.drew).mono ?_)⟩;rintro x dm ⟨rfl,cm⟩;have M:Far xO ac dm:=((ξ _ ac).drew).below cm;have ca:(λb=>b.cell? ⟨q,0,O⟩=W (V I e.no)/\b.cell? ⟨q,1,O⟩=W (V I f)/\b.cell? ⟨q,2,O⟩=W (Y m o p)/\b.cell? ⟨j,0,O⟩=W (V I f)/\b.cell? ⟨g,0,O⟩=W (.iface (asT d) (γ #[]))) dm:=⟨M.at r.out.1 (id),M.at r.out.2.1 (id),M.at r.out.2.2.1 (id),M.at r.out.2.2.2.1 (id),M.at r.out.2.2.2.2 (id)⟩;obtain⟨d0,er⟩:=zx2 ca M;refine i.out _ _ (λ_=>d0.out) ?_;clear i K ca M cm
   (try go_frame)
   have b9:∀b,Calls π (asF d) #[γ #[],asV d] b λe w'=>e=ρ (β true)/\Below b.heap.size b w':=λb=>by
    cases d with
    |true=>exact qo b
    |false=>exact qq b
   have ek:∀args b,(callFunc (asF d) args).run π b=.ok (.enter (asF d) args) b:=λargs b=>by cases d<;>kernel_rfl
   have dr:=zD b9;clear b9;refine dQ [15] (by kernel_rfl) (by simp) ?_;refine yj.cons rfl (by kernel_rfl) (λK i=>?_) yj.nil
   go_simp
   refine⟨trivial,callsIn_wide.2 ((dr.out _).mono ?_)⟩;rintro x bq ⟨rfl,co⟩;have F:Far xO ac bq:=er.out.below co;have b4:(λb=>b.cell? ⟨q,0,O⟩=W (V I e.no)/\b.cell? ⟨q,1,O⟩=W (V I f)/\b.cell? ⟨q,2,O⟩=W (Y m o p)/\b.cell? ⟨j,0,O⟩=W (V I f)/\b.cell? ⟨g,0,O⟩=W (.iface (asT d) (γ #[]))) bq:=⟨F.at r.out.1 (id),F.at r.out.2.1 (id),F.at r.out.2.2.1 (id),F.at r.out.2.2.2.1 (id),F.at r.out.2.2.2.2 (id)⟩;have H:=zD b4;have a0:=zD (db.out.trans F);refine i.out _ _ (λ_=>H.out) ?_;clear i K b4 F co ek dv eq
   (try go_frame)
   refine fV (by kernel_rfl) (λ_ _ _ _ c=>c) H.out 3 [16,17,18,19,20] _ _ (by kernel_rfl) ?_;iterate 5 (refine Ei ?_;(try go_frame))
   refine xT.done ?_;try dsimp only
   obtain⟨e5,e1,assign,body,d3,b6⟩:=d2.out bq a0.out;have dc:=zD b6;clear b6;refine dQ [21] (by kernel_rfl) (by simp) ?_;refine yj.cons rfl (by kernel_rfl) (λK i=>?_) yj.nil
   go_simp
   refine(dc.out).mono ?_;have e3:=a0.out.size;rintro x a6 ⟨an,⟨s,ch⟩,d4⟩;have cl:(λb=>b.cell? ⟨q,0,O⟩=W (V I e.no)/\b.cell? ⟨q,1,O⟩=W (V I f)/\b.cell? ⟨q,2,O⟩=W (Y m o p)/\b.cell? ⟨j,0,O⟩=W (V I f)/\b.cell? ⟨g,0,O⟩=W (.iface (asT d) (γ #[]))) a6:=⟨s.at H.out.1 (λe=>by have c:=b1.out _ e;dsimp only at c;omega),s.at H.out.2.1 (λe=>by have c:=b1.out _ e;dsimp only at c;omega),s.at H.out.2.2.1 (λe=>by have c:=b1.out _ e;dsimp only at c;omega),s.at H.out.2.2.2.1 (λe=>(S.out _ e).2.1 rfl),s.at H.out.2.2.2.2 (λe=>(S.out _ e).2.2 rfl)⟩;have cT:=s.heap (a0.out.heap A.out.1 id) (λe=>(S.out _ e).1 rfl);have c5:=s.heap (a0.out.heap A.out.2.1 id) (λe=>(S.out _ e).2.1 rfl);have c2:=s.heap (a0.out.heap A.out.2.2 id) (λe=>(S.out _ e).2.2 rfl);have e0:E < wr.heap.size/\j < wr.heap.size/\g < wr.heap.size:=⟨lt_of_heap A.out.1,lt_of_heap A.out.2.1,lt_of_heap A.out.2.2⟩;have cS:∀k,an k->k≠E/\k≠j/\k≠g:=λk c=>by
    rcases ch k c with c|c|c
    ·exact S.out k c
    ·exact c.elim
    ·omega
   have ct:B<=a6.heap.size:=by have:=s.size;omega
   have bb:=zD cl;have dp:=zD (θ cT (θ c5 (θ c2 (θ cS ct))));clear cl s ch cT c5 c2 cS ct dc d3;rcases d4 with ⟨rfl,b3⟩|⟨rfl,c4⟩
   ·have b0:=zD b3
    clear b3;refine i.out _ _ (λ_=>bb.out) ?_;clear i K
    (try go_frame)
    refine fV (by kernel_rfl) (λ_ _ _ _ c=>c) bb.out 0 [22,23] _ _ (by kernel_rfl) ?_;iterate 2 (refine Ei ?_;(try go_frame))
    refine xT.done ?_;try dsimp only
    refine rD (by kernel_rfl) (NoPanic.normal ?_) _;have c6:Ay y a6 < Ay y wr:=by
     obtain⟨_,_,ds⟩:=(bD.out (t+1) an a6 b0.out).1;have c:=ds.len_at
     rw[zZ,a5.out]at c;have:=d6.out;omega
    have en:=zD c6;clear c6
    go_wp2_with fail
    go_roundw
    case rel=>first|exact⟨t+1,a2,an,b0.out,dp.out⟩|exact⟨t+1,an,a2,b0.out,dp.out⟩
    case measure=>exact en.out
   ·have es:=zD c4
    clear c4;refine i.out _ _ (λ_=>bb.out) ?_;clear i K
    (try go_frame)
    refine fV (by kernel_rfl) (λ_ _ _ _ c=>c) bb.out 0 [22,23] _ _ (by kernel_rfl) ?_;iterate 2 (refine Ei ?_;(try go_frame))
    refine xT.done ?_;try dsimp only
    refine rD (by kernel_rfl) (NoPanic.normal ?_) _
    go_wp2_with fail
    try rw[Exit.noGoto_normal]
    go_end0
    exact⟨⟨_,rfl⟩,.inr ⟨an,es.out⟩⟩
  ·obtain rfl:t=al:=by omega
   rw[List.drop_of_length_le (by rw[a5.out];exact η _)]at G;have R:=je y a3 be ab wr G;have dn:=λb (T:Far xO wr b)=>c9.out t u wr b P (T.mono (λ_ _ e=>e.elim));obtain⟨av,d1⟩:=zx2 R dn;clear R dn G bs bx P C N D
   go_wp2_with fail
   refine av.out.mono ?_;rintro x z ⟨rfl,X⟩;have dl:Far xO wr (z.alloc (.cells #[V I 0,V I 0,Y O 0 0] 220)):=(Far.of_below X xO).alloc _;have dC:=zD dl;clear X dl av
   go_upto_region 1 with (fail)
   generalize (z.alloc (.cells #[V I 0,V I 0,Y O 0 0] 220))=ac at *;refine wp_region_noPanic ?_;refine(wpIn_wide (n:=4)).1 ?_;refine cK (λb=>True) [] (by kernel_rfl) ?_;refine fV (by kernel_rfl) (λ_ _ _ _ c=>c) trivial 0 [0,1,2,3,4,5,6,7,8,9,10,11,12,13,14,15,16,17,18,19,20,21,22,23] _ _ (by kernel_rfl) ?_;iterate 3 (refine Ei ?_;(try go_frame))
   iterate 4 (refine aB rfl (by simp only[zH,zI,zJ];rfl) (by kernel_rfl) ?_;(try go_frame))
   iterate 2 (refine Ei ?_;(try go_frame))
   iterate 8 (refine aB rfl (by simp only[zH,zI,zJ];rfl) (by kernel_rfl) ?_;(try go_frame))
   iterate 2 (refine Ei ?_;(try go_frame))
   iterate 4 (refine aB rfl (by simp only[zH,zI,zJ];rfl) (by kernel_rfl) ?_;(try go_frame))
   iterate 1 (refine Ei ?_;(try go_frame))
   refine xT.done ?_;try dsimp only
   refine rD (by kernel_rfl) (NoPanic.normal ?_) _
   go_wp2_with fail
   try rw[Exit.noGoto_normal]
   go_end0
   exact⟨⟨_,rfl⟩,.inl ⟨u,d1.out _ dC.out.drew,trivial⟩⟩
end
section
attribute [local go_sem] ak
theorem bi:∀a:List Tp.Tk,(xZ a).length=a.length * 3
 | []=>rfl
 |t::r=>by
  have b:=bi r;have e:xZ (t::r)=[V I t.k,xR t.s,V I (t.a:Int)]++xZ r:=rfl;rw[e,zP,b,zO,zO,zO,List.length_nil,zO];omega
theorem Row.dropTk{w:World}{d:NS}{n f g o:Nat}{a:Option Addr}{b:List Tp.Tk}(t:Row w d n (Y a n f) (xZ b))(z:n=b.length)(j:Nat)(D:j < b.length)(u:a=W ⟨g,o,O⟩):Row w d (n - j) (Y (W ⟨g,o+j * 3,O⟩) (n - j) (f - j)) (xZ (b.drop j)):=by
 obtain⟨A,x,y,cap,m,v,r,l⟩:=t;injection m with e1 _ e3;subst e1 e3 u;have c:xZ b≠[]:=λe=>by have:=bi b;rw[e]at this;simp at this;omega
 obtain⟨e,k,p⟩:=l c;injection e with e;injection e with e1 e2;subst e1 e2;refine⟨_,_,_,_,rfl,⟨by omega,by omega⟩,λ_=>r c,λ_=>⟨rfl,k,λi C q=>?_⟩⟩;rw[Nat.add_assoc];refine p _ _ ?_;have s:xZ b=xZ (b.take j)++xZ (b.drop j):=by
  conv=>lhs;rw[<-List.take_append_drop j b]
  unfold xZ;rw[List.flatMap_append]
 rw[s,zV (by rw[bi,List.length_take];omega),bi,List.length_take,show j * 3+i - min j b.length * 3=i by rw[Nat.min_eq_left (by omega)];omega];exact q
theorem nQ(a g f:Nat)(d:NS)(l:Int)(w:World)(c:yp w a g f d []):Calls π 201 #[Z (W ⟨a,0,O⟩),V I l] w λe w'=>e=ρ .nilIface/\Below w.heap.size w w':=by
 have j:=zD (je a g f d w c);clear c
 go_enter func201,ntmps201
 go_wp2_with fail
 refine j.out.mono ?_;rintro x k ⟨rfl,b⟩;have i:Below w.heap.size w (k.alloc (J #[V I 0,V I 0,Y O 0 0] 220)):=b.alloc b.size _;have m:=zD i;clear b i j
 go_wp2_with fail
 go_ret
 exact⟨rfl,m.out⟩
theorem jT(a:Nat)(b:Int)(T:TypeId)(x:Value)(w:World):Calls π 199 #[Z (W ⟨a,0,O⟩),V I b,.iface T x] w λe w'=>e=ρ (φ (.func 235) #[] #[Z (W ⟨w.heap.size,0,O⟩),Z (W ⟨w.heap.size+1,0,O⟩),Z (W ⟨w.heap.size+1+1,0,O⟩)])/\w'=(((w.alloc (J #[Z (W ⟨a,0,O⟩)] 149)).alloc (J #[V I b] 3)).alloc (J #[.iface T x] 308)):=by
 go_enter func199,ntmps199
 go_wp2
 go_ret
 exact⟨rfl,rfl⟩
end
section
attribute [local go_sem] ak
attribute [local go_sem] Oper.semAt_some
structure WhI(w2:World)(q7:Nat)(outs:List Tp.Nd)(t:Nat)(F:NS)(W:World):Prop where
 le:t<=outs.length
 row:∃(sa:Option Addr) (sn sc:Nat) (cs:List Value) (KG:NS),W.heap[q7]? =some (J #[V I 0,Y sa sn sc] 54 (0,0))/\W.ownsRow w2.heap.size 185 6 (Y sa sn sc) t cs/\xX W KG (outs.take t) cs/\(∀k,KG k->w2.heap.size<=k/\k < W.heap.size/\(Value.slice sa sn sc).ownBlock≠some k)/\(∀k,F k↔k=q7\/(Value.slice sa sn sc).ownBlock=some k\/KG k)
 far:Far (·=q7) w2 W
theorem oy{e:Func}{a:Tmp}(g:e.results=#[.cell a 54])(b:World)(q:Nat)(x c:Value)(d:Array Value)(j:b.heap[q]? =W (J #[x,c] 54 (0,0)))(k:d.getD a undef=Z (W ⟨q,0,O⟩)):
 (results e d).run π b=.ok (γ #[x,c]) b:=by
 have f:d[a]?.getD undef=Z (W ⟨q,0,O⟩):=by simpa using k
 have i:=run_loadVar_row (P:=π) b q 54 54 #[x,c] (0,0) _ j underlying54 rfl (by kernel_rfl);simp[results,g,asAddr,f,i,Sem.run_bind,Result.andThen]
theorem cp(a:List Nat):(Tp.firsts a).length<=a.length:=by
 have e:∀t,t<=a.length->(clF a t).length<=t:=by
  intro t;induction t with
  |zero=>intro _;simp[clF,Tp.firsts]
  |succ t ih=>
   intro f;obtain⟨b,d⟩:∃b,a[t]? =W b:=⟨_,zE f⟩;have:=ih (by omega);by_cases c:b∈clF a t
   ·rw[uL a t b d c];omega
   ·rw[mS a t b d c,zP];show _+1<=_;omega
 have:=e a.length (η _)
 rwa [sG a _ (η _)]at this
theorem iX(g:List Tp.Nd)(y:List Nat)(v:Value)(b5:NS)(f S m:Nat)(w:World)(es:yc w b5 g v)(en:w.heap[f]? =W (J #[V I 0,v,Y (W ⟨S,0,O⟩) m m] 178 (0,0)))(e2:PR w S (xP y))(el:y.length=m)(dn:g.length=m)(d1:∀H∈y,H < m)(a4:∀x∈g,yx x)(g5:∀x∈g,∀k∈Tp.kidsOf x,k < m)(g7:y[0]? =W 0)(kl:m<=200)(hT:∀k,b5 k->k < w.heap.size/\k≠S):
 Calls π 60 #[Z (W ⟨f,0,O⟩)] w λe w'=>(∃g4,e=ρ (γ #[V I 0,g4])/\yc w' (New w) (Tp.whole g y) g4)/\Below w.heap.size w w':=by
 obtain⟨hC,gR,ht,bq,hK⟩:=info_parts mI;obtain⟨c,bx⟩:∃c,w.heap.size=c:=⟨_,rfl⟩;obtain⟨E,ck⟩:∃o,Tp.whole g y=o:=⟨_,rfl⟩;have ft:∀(t H:Nat),(Tp.firsts y)[t]? =W H->E[t]? =W ((λH=>let x:=g.getD (Tp.idx y H) ⟨0,Tp.Sc.null,[],[]⟩;(⟨x.k,x.x,Tp.keysOf x,(Tp.kidsOf x).map λi=>y.getD i 0⟩:Tp.Nd)) H):=λt H a=>by rw[<-ck];unfold Tp.whole;rw[List.getElem?_map,a];rfl
 have fT:E.length=(Tp.firsts y).length:=by rw[<-ck];simp[Tp.whole]
 rw[ck];have b9:Far xO w ((w.alloc (J #[Z (W ⟨f,0,O⟩)] 112)).alloc (J #[V I 0,Y O 0 0] 54)):=((ξ _ w).alloc _).alloc _;have dj:((w.alloc (J #[Z (W ⟨f,0,O⟩)] 112)).alloc (J #[V I 0,Y O 0 0] 54)).heap[c]? =W (J #[Z (W ⟨f,0,O⟩)] 112 (0,0)):=by rw[<-bx];exact aa _ (af w _)
 have gJ:((w.alloc (J #[Z (W ⟨f,0,O⟩)] 112)).alloc (J #[V I 0,Y O 0 0] 54)).heap[c+1]? =W (J #[V I 0,Y O 0 0] 54 (0,0)):=ah _ _ _ (by simp[bx]);have eM:=b9.heap en id;have ef:=e2.far b9 id;have iv:0 < m:=by have:=(zM.1 g7).1;omega
 have c1:=zF dj 0 rfl;obtain⟨b0,d5,b6,_⟩:=bv eM;have ep:((w.alloc (J #[Z (W ⟨f,0,O⟩)] 112)).alloc (J #[V I 0,Y O 0 0] 54)).cell? ⟨S,0,O⟩=W (V I 0):=ef.cell (by unfold xP;rw[List.getElem?_map,g7];rfl);obtain⟨it,bs,rfl,_⟩:=es.form;have dc:((w.alloc (J #[Z (W ⟨f,0,O⟩)] 112)).alloc (J #[V I 0,Y O 0 0] 54)).heap.size=c+2:=by simp[bx]
 obtain⟨ha,f7,e8,fX,e7⟩:=zx5 b9 dj gJ eM ef;have i0:(0:Int) < (m:Int):=by omega
 refine callsIn_wide.1 (callsIn_of_wp_marks (n:=5) func60 rfl trivial (wpIn_wide.2 ?_));simp only[ntmps60,List.size_toArray,zO,List.length_nil,Nat.reduceAdd,Nat.reduceSub,Array.replicate_succ,Array.replicate_zero,List.push_toArray,List.append_toArray,List.nil_append,List.cons_append];have ba:=zD bx;clear b9 dj gJ eM ef
 go_upto_region 1 with (fail)
 generalize ((w.alloc (J #[Z (W ⟨f,0,O⟩)] 112)).alloc (J #[V I 0,Y O 0 0] 54))=M at *;clear bx
 go_region_held3 (λb=>b.cell? ⟨c,0,O⟩=W (Z (W ⟨f,0,O⟩))/\b.cell? ⟨f,0,O⟩=W (V I 0)/\b.cell? ⟨f,2,O⟩=W (Y (W ⟨S,0,O⟩) m m)/\b.cell? ⟨S,0,O⟩=W (V I 0)) (first|exact⟨c1,b0,b6,ep⟩|exact⟨((ξ xO M).alloc _).at c1 id,((ξ xO M).alloc _).at b0 id,((ξ xO M).alloc _).at b6 id,((ξ xO M).alloc _).at ep id⟩) (fail)
 have e0:Far xO M ((M.alloc (J #[V I 0,Y O 0 0] 54)).drew):=((ξ _ M).alloc _).drew;have f9:((M.alloc (J #[V I 0,Y O 0 0] 54)).drew).heap[c+2]? =W (J #[V I 0,Y O 0 0] 54 (0,0)):=cq (ah _ _ _ dc.symm);have cv:((M.alloc (J #[V I 0,Y O 0 0] 54)).drew).cell? ⟨c,0,O⟩=W (Z (W ⟨f,0,O⟩)):=e0.at c1 id;have bq:((M.alloc (J #[V I 0,Y O 0 0] 54)).drew).heap.size=c+3:=by
  have:(M.alloc (J #[V I 0,Y O 0 0] 54)).heap.size=c+3:=by simp[dc]
  exact this
 obtain⟨bm,hd⟩:=zx2 e0 f9;clear c1 b0 d5 b6 ep e0 f9;generalize ((M.alloc (J #[V I 0,Y O 0 0] 54)).drew)=ac at *
 go_wp2_with fail
 refine(kQ _ _).mono ?_;rintro e i3 ⟨rfl,rfl⟩;rw[bq];have a6:Far xO ac (ac.alloc (J #[Z (W ⟨f,0,O⟩)] 112)):=(ξ _ ac).alloc _;have db:Far xO w (ac.alloc (J #[Z (W ⟨f,0,O⟩)] 112)):=(ha.out.trans bm.out).trans a6;have dg:(ac.alloc (J #[Z (W ⟨f,0,O⟩)] 112)).heap.size=c+4:=by simp[bq]
 have cf:=(e7.out.far bm.out id).far a6 id;have d4:Row (ac.alloc (J #[Z (W ⟨f,0,O⟩)] 112)) (·=S) m (Y (W ⟨S,0,O⟩) m m) (xP y):=⟨_,S,0,m,rfl,⟨η _,by unfold maxLen;omega⟩,λ_=>rfl,λ_=>⟨rfl,cf.lt,λi gZ hN=>by rw[Nat.zero_add];exact cf.cell hN⟩⟩;have dW:=a6.heap (bm.out.heap fX.out id) id;have fR:(ac.alloc (J #[Z (W ⟨f,0,O⟩)] 112)).heap[c+3]? =W (J #[Z (W ⟨f,0,O⟩)] 112 (0,0)):=ah _ _ _ bq.symm;have e5:=a6.heap hd.out id;have fY:=mM y _ _ (·=S) (c+3) f m _ dW fR d4 el (λH b1=>by have:=d1 H b1;omega) (λk d=>by subst d;rw[dg];have:=cf.lt;omega) (by omega);have g3:WhI (ac.alloc (J #[Z (W ⟨f,0,O⟩)] 112)) (c+2) E 0 (λk=>k=c+2\/(Value.slice O 0 0).ownBlock=W k\/False) (ac.alloc (J #[Z (W ⟨f,0,O⟩)] 112)):=⟨z_ _,⟨O,0,0,[],λ_=>False,e5,World.ownsRow_nil _ _ _ _,by unfold xX;rfl,λ_ a=>a.elim,λ_=>Iff.rfl⟩,ξ _ _⟩;have hh:∀k,b5 k->k < c:=λk d=>ba.out ▸ (hT k d).1;have kb:S < c:=ba.out ▸ e2.lt;have i8:f < c:=ba.out ▸ lt_of_heap en;obtain⟨hA,h2,X⟩:=zx3 fY g3 dg;have hu:=zD (es.far db (λ_ _ _ e=>e));obtain⟨fs,h3,h4,hG⟩:=zx4 hh ft dW d4;have hV:=zD (a6.heap (bm.out.heap f7.out id) id);have h0:=zD (a6.heap (bm.out.heap e8.out id) id);obtain⟨c5,hx,hX,kh⟩:=zx4 db a4 g5 d1;clear fY g3 dg es hh ft dW d4 db a4 g5 d1 cf fR e5 a6 ha bm f7 e8 fX e7 hd en e2 cv;generalize (ac.alloc (J #[Z (W ⟨f,0,O⟩)] 112))=b4 at *;clear bq dc
 go_wp2_with fail
 refine wpIn_wide.1 (aC (n:=5) (gf:=124) (lb:=#[Z (W ⟨c+3,0,O⟩)]) rfl (λargs wx=>sm args wx)
  hA.out (λk e=>e.elim) (λk e=>by have:=X.out;rcases e with rfl|rfl|e;omega;omega;(subst e;omega)) (λt v hz b a=>by obtain⟨⟨x,_,rfl⟩,_⟩:=a;rfl)
  (WhI b4 (c+2) E) (λ_ _ _=>False) (λk=>k=c+2\/(Value.slice O 0 0).ownBlock=W k\/False) (λk a=>?hF0) h2.out ?hI (λ_ _ _ _ a _=>a) (λ_ _ _ _=>trivial) (λ_ _ _ _=>trivial) ?round ?done (λ_ _ _ a=>a.elim))
 case hF0=>
  have:=X.out;have d:k=c+2:=by
   rcases a with a|a|a
   ·exact a
   ·simp[Value.ownBlock]at a
   ·exact a.elim
  exact⟨λe=>e,λe=>by rcases e with e|e|e<;>omega,by omega,by omega,λ_=>by omega⟩
 case hI=>
  rintro t cb b hW ⟨dJ,⟨r,F,s,a9,a5,N,z,P,ab,L⟩,ad⟩ a4;refine⟨dJ,⟨r,F,s,a9,a5,a4.heap N (λe=>e.1 ((L _).2 (.inl rfl))),am z a4 (λk e a=>a.1 ((L k).2 (.inr (.inl e)))),xX.far a4 (λk d _ e=>e.1 ((L k).2 (.inr (.inr d)))) _ _ P,λk d=>⟨(ab k d).1,zK (ab k d).2.1 a4.size,(ab k d).2.2⟩,L⟩,ad.step a4 (λi gR e=>?_)⟩;rcases e.2 with a|a
  ·exact a.elim
  ·omega
 case round=>
  rintro t cb hz gZ b K h8 hs ⟨dJ,⟨r,F,s,a9,a5,N,z,P,ab,L⟩,ad⟩ ⟨⟨H,b1,rfl⟩,rfl⟩ hn al C;have g2:=X.out;rw[g2]at hs al
  gi_wp2
  refine C _ _ (ξ _ _) ?_;intro T a3 _ _;rw[g2]at a3;obtain⟨i,co⟩:∃i,Tp.idx y H=i:=⟨_,rfl⟩;have gx:H∈y:=(Tp.bH _ _).1 (zL b1);have hD:i < m:=by rw[<-co,<-el];exact Tp.kN _ _ gx
  obtain⟨x,bR⟩:∃x,g[i]? =W x:=⟨_,zE (by rw[dn];exact hD)⟩;have cc:=h3.out t H b1;rw[co]at cc;simp only[zY (l:=g),bR,Option.getD_some]at cc;have e3:=hx.out x (zL bR);have gl:=hX.out x (zL bR);have u:Far (λk=>k=c+2\/c+4<=k) b4 T:=(ad.mono (λk _ e=>.inl e)).step a3 (λk d e=>.inr (by omega));have ds:=u.heap hV.out (by omega);have ek:=u.heap h4.out (by omega);have cT:=hu.out.far u (λk d _ e=>by have:=fs.out k d;omega);have ga:=hG.out.far u (λk d _ e=>by subst d;omega);obtain⟨kv,gb,c0⟩:=cT.at bR;rw[dn]at c0;have f0:=bS 0 x _ kv gb m i b5 T c0 e3;rw[co];have hU:=zF ds 0 rfl;obtain⟨b0,d5,b6,_⟩:=bv ek;have h7:=u.size;have hf:=a3.heap N (by omega);have gM:=am z a3 (λk e a=>by have:=(al k ((L k).2 (.inr (.inl e)))).2.1;omega);have gO:=xX.far a3 (λk d _ e=>by have:=(al k ((L k).2 (.inr (.inr d)))).2.1;omega) _ _ P;have hc:=ad.step a3 (λk d e=>by omega);have j9:=a3.size;obtain⟨fl,g0,hH,e6,bD,hj⟩:=zx6 hf gM gO ab L hc;obtain⟨d0,c9,di,hk,gN,d6⟩:=zx6 ds ek c0 ga f0 cc;obtain⟨hY,gr,kd⟩:=zx3 gl e3 al;clear N z P ab L ad hf gM gO hc ds ek c0 ga f0 cc gl e3 al C hn cT u b1 bR gx a3 co
  gi_wp2
  refine⟨trivial,callsIn_wide.2 (gN.out.mono ?_)⟩;rintro e dC ⟨⟨kk,rfl,c6⟩,bw⟩;obtain⟨c3,ex,rfl,_⟩:=c6.form;have ei:=(bw.block _ (lt_of_heap d0.out)).trans d0.out;have er:=(bw.block _ (lt_of_heap c9.out)).trans c9.out;have c4:=zF ei 0 rfl;obtain⟨hS,hy,h6,_⟩:=bv er;have fE:=bQ 0 x _ kv gb m i b5 dC (di.out.below bw) gr.out;have e4:=zD fE;have g6:=zD (c6.mono (G':=λk=>T.heap.size<=k/\k < dC.heap.size) (λk N z=>⟨N,z⟩));obtain⟨g1,hP,hQ⟩:=zx3 bw ei er;have jW:=bw.size;clear fE c6 bw ei er gN hU b0 d5 b6
  gi_wp2
  refine⟨trivial,callsIn_wide.2 (e4.out.mono ?_)⟩;rintro e R ⟨⟨i9,rfl,be⟩,ct⟩;obtain⟨kg,jw,rfl,_⟩:=be.form;have ao:Far xO T R:=(Far.of_below g1.out xO).below ct;have i4:=ct.size;have fv:=g6.out.below ct;have gc:=be.mono (G':=λk=>dC.heap.size<=k/\k < R.heap.size) (λk N z=>⟨N,z⟩);have iw:(Tp.kidsOf x).length<=100000:=Nat.le_trans (bI x) gr.out.2.2;have hb:=di.out.far ao (λ_ _ _ e=>e);have fc:=ao.heap d0.out id;have ej:=ao.heap c9.out id;have he:=hk.out.far ao (λ_ _ _ e=>e);have dl:=ao.heap fl.out id;obtain⟨j,o,i6,hF,i2,e9,f6,f8,d2,_⟩:=hb.cells;injection hF with e91 _ e93;subst e91 e93;obtain⟨SX,fu⟩:∃hr,xR x.x.s=U hr:=⟨_,rfl⟩;rw[fu]at d2;obtain⟨_,dA,_⟩:=bO dl;obtain⟨_,eq,_⟩:=bv ej;rw[dn]at eq;have fw:=zF fc 0 rfl;have f3:(λb=>b.cell? ⟨c,0,O⟩=W (Z (W ⟨f,0,O⟩))/\b.cell? ⟨c+2,1,O⟩=W (Y r F s)/\b.cell? ⟨f,1,O⟩=W (Y (W ⟨j,o,O⟩) m bs)/\b.cell? ⟨j,o+i * 6,O⟩=W (V I x.k)/\b.cell? ⟨j,o+i * 6+1,O⟩=W (V I x.x.k)/\b.cell? ⟨j,o+i * 6+2,O⟩=W (V I x.x.n)/\b.cell? ⟨j,o+i * 6+3,O⟩=W (U SX)) R:=⟨fw,dA,eq,e9,f6,f8,d2⟩;have ka:(i:Int) < (m:Int):=by omega
  have iB:(0:Int)<=(i:Int):=by omega
  have be:Far xO R R.drew:=(ξ _ R).drew;have hi:=k9 (Tp.kidsOf x) y _ _ _ _ _ f m R.drew (gc.far be (λ_ _ _ e=>e)) (be.heap ej id) (he.far be (λ_ _ _ e=>e)) el hY.out (by omega);have fS:∀k,(Value.slice r F s).ownBlock=W k->c+4<=k/\k < T.heap.size:=λk e=>by have:=g0.out.lt k e;have:=X.out;omega
  have jK:=fs.out j (by obtain⟨⟨ie,jb,kf,bb,_,a,_⟩,_⟩:=di.out;injection bb with bb _ _;injection bb with bb;injection bb with bb;exact bb ▸ a);have hw:=zD (am g0.out ao (λ_ _ e=>e));have g8:=zD (xX.far ao (λ_ _ _ e=>e) _ _ hH.out);obtain⟨f4,gQ,ho,h5⟩:=zx4 dl ao fv hi;have a2:=zD (θ fu f3);have a0:=zD fS;clear ao fv gc hb fc ej he dl dA eq fw e9 f6 f8 d2 f3 be hi fS c4 hS hy h6 g1 hP hQ g6 e4 ct
  gi_wp2_with (fail)
  refine aN (λb=>b.cell? ⟨c,0,O⟩=W (Z (W ⟨f,0,O⟩))/\b.cell? ⟨c+2,1,O⟩=W (Y r F s)/\b.cell? ⟨f,1,O⟩=W (Y (W ⟨j,o,O⟩) m bs)/\b.cell? ⟨j,o+i * 6,O⟩=W (V I x.k)/\b.cell? ⟨j,o+i * 6+1,O⟩=W (V I x.x.k)/\b.cell? ⟨j,o+i * 6+2,O⟩=W (V I x.x.n)/\b.cell? ⟨j,o+i * 6+3,O⟩=W (U SX)) [28] (by kernel_rfl) (by kernel_rfl) (λa=>by obtain⟨_,_,a⟩:=a;exact a) ?_;refine ay 10 (by kernel_rfl) (λ_ _ _ _ a=>a) (show (λb=>b.cell? ⟨c,0,O⟩=W (Z (W ⟨f,0,O⟩))/\b.cell? ⟨c+2,1,O⟩=W (Y r F s)/\b.cell? ⟨f,1,O⟩=W (Y (W ⟨j,o,O⟩) m bs)/\b.cell? ⟨j,o+i * 6,O⟩=W (V I x.k)/\b.cell? ⟨j,o+i * 6+1,O⟩=W (V I x.x.k)/\b.cell? ⟨j,o+i * 6+2,O⟩=W (V I x.x.n)/\b.cell? ⟨j,o+i * 6+3,O⟩=W (U SX)) R.drew from a2.out.2) 6 [0,1,2,3,4,5,6,7,8,9,10,11,12,13,14,15,16,17,18,19,20,21,22] _ _ (by kernel_rfl) ?_;iterate 23 (refine Ei ?_;(try go_frame))
  refine xT.done ?_;try dsimp only
  refine aq [23] ?_;refine aj rfl (λK C=>?_) xQ.nil
  go_simp
  refine h5.out.mono ?_;rintro e G ⟨⟨js,rfl,dv⟩,ge⟩;obtain⟨dr,dm,rfl,_⟩:=dv.form;have A:Far xO R G:=((ξ _ R).drew).below ge;have an:(λb=>b.cell? ⟨c,0,O⟩=W (Z (W ⟨f,0,O⟩))/\b.cell? ⟨c+2,1,O⟩=W (Y r F s)/\b.cell? ⟨f,1,O⟩=W (Y (W ⟨j,o,O⟩) m bs)/\b.cell? ⟨j,o+i * 6,O⟩=W (V I x.k)/\b.cell? ⟨j,o+i * 6+1,O⟩=W (V I x.x.k)/\b.cell? ⟨j,o+i * 6+2,O⟩=W (V I x.x.n)/\b.cell? ⟨j,o+i * 6+3,O⟩=W (U SX)) G:=⟨A.at a2.out.2.1 (id),A.at a2.out.2.2.1 (id),A.at a2.out.2.2.2.1 (id),A.at a2.out.2.2.2.2.1 (id),A.at a2.out.2.2.2.2.2.1 (id),A.at a2.out.2.2.2.2.2.2.1 (id),A.at a2.out.2.2.2.2.2.2.2 (id)⟩;have f1:=zD an;refine C.out _ _ (λ_=>f1.out) ?_;clear C K
  (try go_frame)
  refine ay 10 (by kernel_rfl) (λ_ _ _ _ a=>a) f1.out 4 [24] _ _ (by kernel_rfl) ?_;iterate 1 (refine Ei ?_;(try go_frame))
  refine xT.done ?_;try dsimp only
  refine aq [25] ?_;refine aj rfl (λK C=>?_) xQ.nil
  go_simp
  obtain⟨bn,cm⟩:∃b,G.alloc (J #[V I x.k,V I x.x.k,V I x.x.n,U SX,Y c3 (Tp.keysOf x).length ex,Y dr (Tp.kidsOf x).length dm] 185)=b:=⟨_,rfl⟩;have u:Far xO G bn:=by rw[<-cm];exact(ξ _ G).alloc _
  have f2:bn.heap[G.heap.size]? =W (J #[V I x.k,V I x.x.k,V I x.x.n,U SX,Y c3 (Tp.keysOf x).length ex,Y dr (Tp.kidsOf x).length dm] 185 (0,0)):=by rw[<-cm];exact af G _
  rw[cm];clear cm;have av:(λb=>b.cell? ⟨c,0,O⟩=W (Z (W ⟨f,0,O⟩))/\b.cell? ⟨c+2,1,O⟩=W (Y r F s)/\b.cell? ⟨f,1,O⟩=W (Y (W ⟨j,o,O⟩) m bs)/\b.cell? ⟨j,o+i * 6,O⟩=W (V I x.k)/\b.cell? ⟨j,o+i * 6+1,O⟩=W (V I x.x.k)/\b.cell? ⟨j,o+i * 6+2,O⟩=W (V I x.x.n)/\b.cell? ⟨j,o+i * 6+3,O⟩=W (U SX)) bn:=⟨u.at an.1 (id),u.at an.2.1 (id),u.at an.2.2.1 (id),u.at an.2.2.2.1 (id),u.at an.2.2.2.2.1 (id),u.at an.2.2.2.2.2.1 (id),u.at an.2.2.2.2.2.2 (id)⟩;have hl:=zD av;refine C.out _ _ (λ_=>hl.out) ?_;clear C K an
  (try go_frame)
  have i5:=(A.trans u).size;have df:=am hw.out A (λ_ _ e=>e);have fG:=am df u (λ_ _ e=>e);have i1:t<=200:=by have N:=(zM.1 d6.out).1;have z:=cp y;omega
  refine aq [26] ?_;refine aj rfl (λK C=>?_) xQ.nil;refine wp_append_lies bn (.tmp 45) (.tmp 69) 52 rfl b4.heap.size 185 hC _ 6 88 underlying52 gR ht bq hK rfl (by decide) (Y r F s) t _ rfl fG ⟨G.heap.size,0,O⟩ 1 1 [V I x.k,V I x.x.k,V I x.x.n,U SX,Y c3 (Tp.keysOf x).length ex,Y dr (Tp.kidsOf x).length dm] ?_ rfl ?_ ?_ (by omega) ?_ ?_ ?_ _ rfl ?_
  ·rfl
  ·intro hE gZ hp
   rw[gK];exact(ae f2 hE).trans (by simpa using hp)
  ·simp[Value.oneCell']
  ·unfold maxLen;omega
  ·omega
  ·have:=X.out;omega
  intro gg cap bk f5 dp gj iY;have d3:Far (λk=>(Value.slice r F s).ownBlock=W k) G bk:=(u.mono (λ_ _ e=>e.elim)).grown dp (λk e _=>e);have a1:Far (λk=>(Value.slice r F s).ownBlock=W k) bn bk:=(ξ _ bn).grown dp (λk e _=>e);have eg:(λb=>b.cell? ⟨c,0,O⟩=W (Z (W ⟨f,0,O⟩))/\b.cell? ⟨c+2,1,O⟩=W (Y r F s)/\b.cell? ⟨f,1,O⟩=W (Y (W ⟨j,o,O⟩) m bs)/\b.cell? ⟨j,o+i * 6,O⟩=W (V I x.k)/\b.cell? ⟨j,o+i * 6+1,O⟩=W (V I x.x.k)/\b.cell? ⟨j,o+i * 6+2,O⟩=W (V I x.x.n)/\b.cell? ⟨j,o+i * 6+3,O⟩=W (U SX)) bk:=⟨a1.at av.1 (λe=>by have a:=a0.out _ e;dsimp only at a;omega),a1.at av.2.1 (λe=>by have a:=a0.out _ e;dsimp only at a;omega),a1.at av.2.2.1 (λe=>by have a:=a0.out _ e;dsimp only at a;omega),a1.at av.2.2.2.1 (λe=>by have a:=a0.out _ e;dsimp only at a;omega),a1.at av.2.2.2.2.1 (λe=>by have a:=a0.out _ e;dsimp only at a;omega),a1.at av.2.2.2.2.2.1 (λe=>by have a:=a0.out _ e;dsimp only at a;omega),a1.at av.2.2.2.2.2.2 (λe=>by have a:=a0.out _ e;dsimp only at a;omega)⟩;have hg:=zD eg;have jj:=A.size;have cl:(Value.slice r F s).ownBlock=W gg\/G.heap.size<=gg:=by
   rcases gj with a|a
   ·exact .inl a
   ·right;have:=u.size;omega
  have fr:TyI b4 (c+2) E t r F s G:=⟨A.heap f4.out id,⟨a9,a5,df,xX.far A (λ_ _ _ e=>e) _ _ g8.out,λk d=>by have:=e6.out k d;exact⟨this.1,by omega,this.2.2⟩⟩,(hj.out.step (gQ.out.trans A) (λ_ _ e=>e.elim))⟩;obtain⟨cS,b8,c2,b3,ch⟩:=sP (x:=⟨x.k,x.x,Tp.keysOf x,(Tp.kidsOf x).map λi=>y.getD i 0⟩) fr (by have:=X.out;omega) d6.out (λk=>T.heap.size<=k/\k < G.heap.size) (λk d=>⟨by have:=X.out;omega,d.2,λe=>by have:=a0.out k e;omega⟩) ((ho.out.far A (λ_ _ _ e=>e)).mono (λk d _=>⟨d.1,by omega⟩)) (by rw[List.length_map];exact dv.mono (λk d z=>⟨by have P:R.heap.size<=k:=d;omega,z⟩)) d3 cl a9 a5 (xX.far A (λ_ _ _ e=>e) _ _ g8.out) (λk d=>by have:=e6.out k d;exact⟨this.1,by omega,this.2.2⟩) (by rw[a2.out.1];exact f5);have fn:Far cb T bk:=((gQ.out.trans A).mono (λ_ _ e=>e.elim)).step d3 (λk _ e=>(bD.out k).2 (.inr (.inl e)));have b2:Far cb T (bk.setCell ⟨c+2,1,O⟩ (Y (W ⟨gg,0,O⟩) (t+1) cap)):=fn.step (Far.setCell (D:=(·=c+2)) (ξ _ _) (p:=⟨c+2,1,O⟩) (λ_=>rfl) _) (λk _ e=>(bD.out k).2 (.inl e));have jL:bk.frozen? ⟨c+2,1,O⟩=false:=ag (a1.heap (u.heap (A.heap f4.out id) id) (λe=>by have a:=a0.out _ e;omega)) 1;have kn:=eg.2.1;have hM:=zD (θ cS (θ b8 (θ c2 (θ b3 (θ ch (θ b2 cl))))));refine C.out _ _ (λ_=>hg.out) ?_;clear C K cS b8 c2 b3 ch fn b2 fr eg f5 dp gj d3 a1 av f2 u fG df dv ge A
  (try go_frame)
  refine ay 10 (by kernel_rfl) (λ_ _ _ _ a=>a) hg.out 1 [27] _ _ (by kernel_rfl) ?_;iterate 1 (refine Ei ?_;(try go_frame))
  refine xT.done ?_;try dsimp only
  refine aq [28] ?_;refine aj rfl (λK C=>?_) xQ.nil
  go_simp
  refine C.out _ _ (λa=>absurd (by simp) a) ?_;clear C K
  (try go_frame)
  refine aP (by kernel_rfl) ?_ _;obtain⟨cS,b8,c2,b3,ch,b2,cl⟩:=hM.out;have hm:t < E.length:=(zM.1 d6.out).1;refine⟨λk=>k=c+2\/(Value.slice (W ⟨gg,0,O⟩) (t+1) cap).ownBlock=W k\/a5 k\/(T.heap.size<=k/\k < G.heap.size),⟨hm,⟨_,_,_,_,λk=>a5 k\/(T.heap.size<=k/\k < G.heap.size),cS,b8,c2,b3,λ_=>Iff.rfl⟩,ch⟩,b2,λk a=>?_⟩;have iC:=b2.size;rcases a with a|a|a
  ·subst a
   exact⟨.inl ((bD.out _).2 (.inl rfl)),λ_=>by have:=lt_of_heap fl.out;omega⟩
  ·refine⟨?_,λ_=>(b8.lt k a).2⟩
   simp[Value.ownBlock]at a
   subst a;rcases cl with a|a
   ·exact .inl ((bD.out gg).2 (.inr (.inl a)))
   ·right;right;omega
  ·refine⟨?_,λ_=>(b3 k a).2.1⟩
   rcases a with a|a
   ·exact .inl ((bD.out k).2 (.inr (.inr a)))
   ·right;right;omega
 case done=>
  rintro cb b ⟨dJ,⟨r,F,s,a9,a5,N,z,P,ab,L⟩,ad⟩ _ C al;rw[X.out]at C al ⊢;have fL:E.length=(Tp.firsts y).length:=fT;rw[<-fL]at z P;rw[List.take_length]at P;have hv:=cz z;subst hv;have hq:∀k,(Value.slice r E.length s).ownBlock=W k->k≠c+4:=λk e=>al k ((L k).2 (.inr (.inl e)));have hR:∀k,a5 k->k≠c+4:=λk e=>al k ((L k).2 (.inr (.inr e)));have e1:=ad.heap h0.out (by omega);obtain⟨ih,dA,_⟩:=bO N;obtain⟨h9,i7,w0,kc⟩:=bO e1;obtain⟨cv,ca⟩:=wZ e1 (V I 0) (Y r E.length s);have cT:yc b (λk=>b4.heap.size<=k) E (Y r E.length s):=⟨a9,(az z),xX.mono (λk d _=>(ab k d).1) _ _ P⟩;have gd:yc b (λk=>c+4 < k) E (Y r E.length s):=⟨a9,(cx z).mono (λk d _=>by have hZ:=z.lt k d;have hL:=hq k d;have:=X.out;omega),xX.mono (λk d _=>by have hZ:=(ab k d).1;have hL:=hR k d;have:=X.out;omega) _ _ P⟩;have fz:Below w.heap.size w ((b.setCell ⟨c+1,0,O⟩ (V I 0)).setCell ⟨c+1,1,O⟩ (Y r E.length s)):=(((c5.out.to_below (η _) (λ_ _ e=>e)).trans (ad.to_below c5.out.size (λk d e=>by have:=ba.out;omega))).trans (ca.to_below (by have:=c5.out.size;have:=ad.size;omega) (λk d e=>by have:=ba.out;omega)));have hJ:=zD (gd.far ca (λk d _ e=>by omega));obtain⟨gk,h1⟩:=zx2 fz cv;have hB:=zD (ca.heap C (by omega));clear fL fT ck cT gd fz cv ca e1 N z P ab L ad C al
  go_wp2_with fail
  refine au (q:=c+4) rfl hB.out ?_;intro hW da;refine⟨γ #[V I 0,Y r E.length s],oy results60 _ (c+1) _ _ _ (da.heap h1.out (by omega)) rfl,⟨_,rfl,(hJ.out.far da (λk d _ e=>by omega)).mono (λk d _=>by have:=ba.out;show w.heap.size<=k;omega)⟩,gk.out.trans (da.to_below (by have:=gk.out.size;exact this) (λk d e=>by have:=ba.out;omega))⟩
end
end Go.Proofs.YtbikgdhbiebhcaaGreatDoor
