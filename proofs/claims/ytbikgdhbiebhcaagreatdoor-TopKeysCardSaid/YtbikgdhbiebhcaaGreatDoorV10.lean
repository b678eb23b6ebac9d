/- Part 10. -/
import Derived.Test.YtbikgdhbiebhcaaGreatDoorV09
set_option linter.unusedVariables false
set_option linter.unusedSimpArgs false
set_option maxRecDepth 100000
set_option maxHeartbeats 2000000
open Go.Value renaming int -> V, string -> U, slice -> Y, pointer -> Z, func -> φ, agg -> γ, bool -> β
open Go.IntKind renaming i64 -> I
open Option renaming some -> W, none -> O
open Go.Obj renaming cells -> J
open Go.Ending renaming returned -> ρ
open Go.Proofs.Tryz renaming prog -> π
open Nat renaming le_refl -> η
open And renaming intro -> θ
open Go.RowKit.Below renaming refl -> ζ
namespace Go.Proofs.YtbikgdhbiebhcaaGreatDoor
open Go.RowKit Tryz
section
attribute [local go_sem] ak
structure AP(g:List Tp.Nd)(cl:List Nat)(x:Tp.Nd):Prop where
 few:yx x
 kids:∀k∈Tp.kidsOf x,k < g.length
 keys:∀y∈Tp.keysOf x,x8 y=true/\y.s.length<=1000
 s1:(commas ((Tp.keysOf x).map Tp.scText)).length<=1000000
 s2:(commas ((Tp.kidsOf x).map λk=>Tp.itoa ((cl.getD k 0:Nat):Int))).length<=1000000
theorem lY(a:Nat)(w:World):Calls π 212 #[Z (W ⟨a,0,O⟩)] w λe w'=>e=ρ (φ (.func 244) #[] #[Z (W ⟨w.heap.size,0,O⟩)])/\w'=w.alloc (J #[Z (W ⟨a,0,O⟩)] 246):=by
 go_enter func212,ntmps212
 go_wp2
 go_ret
 exact⟨rfl,rfl⟩
theorem sd(args:Array Value)(w:World):(callFunc 244 args).run π w=.ok (.enter 244 args) w:=by kernel_rfl
def A7(g:List Tp.Nd)(b:List Nat)(t:Nat)(a:Array Value)(c:NS)(_:World):Prop:=(∃x,g[t]? =W x/\a=#[V I (t:Int),yM (Tp.say b x)])/\c=xO
theorem qj(g:List Tp.Nd)(p:List Nat)(v al:Value)(d o:NS)(r c:Nat)(w:World)(M:yc w d g v)(j:w.heap[c]? =some (.cells #[V I 0,v,al] 319 (0,0)))(q:w.heap[r]? =some (.cells #[Z (some ⟨c,0,O⟩)] 246 (0,0)))(a6:Row w o g.length al (xP p))(c4:p.length=g.length)(ck:∀A∈p,A<=1000000)(N:Glob w)(bR:∀x∈g,AP g p x)(c0:∀k,d k->k < w.heap.size)(b0:∀k,o k->k < w.heap.size):
 yQ π 244 #[Z (some ⟨r,0,O⟩)] 3 g.length (A7 g p) xO (λk=>k=r\/k=c\/k < 10\/d k\/o k) True (λ_ _=>True) (λ_=>True) w:=by
 intro l J d6 b3 W F bs hF0 an d2 c6 b6 c3;have bD:=M.below F;have c2:=(F.block _ (lt_of_heap j)).trans j;have bk:=(F.block _ (lt_of_heap q)).trans q;have b9:=a6.below F;have b4:=F.size;have c1:=N.step F;have dv:=lt_of_heap j;have dl:=lt_of_heap q;have dn:=N.1;obtain⟨B,ad⟩:∃B,w.heap.size=B:=⟨_,rfl⟩;rw[ad]at an b4 dv dl dn;have u:∀k,d k->k < B:=λk m=>ad ▸ c0 k m;have bx:∀k,o k->k < B:=λk m=>ad ▸ b0 k m;have c5:∀k,b3 k->¬(k=r\/k=c\/k < 10\/d k\/o k):=λk m=>(hF0 k m).2;have T:=λi x f (z:g[i]? =some x) (M:yc f d g v) (j:f.heap[c]? =some (.cells #[V I 0,v,al] 319 (0,0))) (y:Row f o g.length al (xP p)) (N:Glob f)=>(show ∃kv a4,yN f d v g.length i x kv a4 from M.at z);obtain⟨a,A,rfl,cc⟩:=M.form;obtain⟨R,P,rfl,_⟩:=a6.form;have cv:∀(i:Nat) (x:Tp.Nd) (f:World),g[i]? =some x->yc f d g (Y a g.length A)->f.heap[c]? =some (.cells #[V I 0,(Y a g.length A),(Y R g.length P)] 319 (0,0))->Row f o g.length (Y R g.length P) (xP p)->Glob f->Calls π 245 #[Z (some ⟨c,0,O⟩),V I (i:Int)] f λe w'=>e=ρ (yM (Tp.say p x))/\Below f.heap.size f w':=by
  intro i x f z M j y N;obtain⟨kv,a4,d3⟩:=M.at z;have S:=bR x (zL z);exact mr x _ kv a4 _ g.length i c d o p f d3 S.few j y c4 S.kids ck N S.keys S.s1 S.s2
 obtain⟨b,ba⟩:∃b,g.length=b:=⟨_,rfl⟩;obtain⟨dW,bn,ct,ek,d0,dr⟩:=zx6 ba cv b6 c6 an u;obtain⟨ds,di,c9,bb,cT,da⟩:=zx6 bx c5 bD c2 bk b9;obtain⟨dA,dm⟩:=zx2 c1 c3;rw[ba]at bn ct bb da c9 cc ⊢;clear cv T b6 c6 an d2 u bx c5 hF0 bD c2 bk b9 c1 c3 F bs M j q a6 c4 ck N bR c0 b0 ad ba;unfold maxLen at cc;have bq:=zF cT.out 0 rfl;obtain⟨dj,dC,d1,_⟩:=bv bb.out
 go_enter func244,ntmps244
 go_wp2_with fail
 go_step3
 go_wp2_with fail
 go_step3
 go_wp2_with fail
 go_loopw [10] (λav wr=>∃(t:Nat) (D:NS),av=V I (t:Int)/\t<=b/\yc wr d g (Y a b A)/\wr.heap[c]? =some (.cells #[V I 0,(Y a b A),(Y R b P)] 319 (0,0))/\wr.heap[r]? =some (.cells #[Z (some ⟨c,0,O⟩)] 246 (0,0))/\Row wr o b (Y R b P) (xP p)/\Glob wr/\B<=wr.heap.size/\J t D wr/\(∀k,D k->¬(k=r\/k=c\/k < 10\/d k\/o k))) (λav _=>b - (Lib.intOf av).toNat)
 case atStart=>exact⟨0,b3,rfl,z_ _,c9.out,bb.out,cT.out,da.out,dA.out,b4,dm.out,di.out⟩
 case round=>
  clear dj dC d1 bq;obtain⟨t,D,rfl,el,G,j,q,y,u,bs,ac,a1⟩:=hrel;by_cases ao:t < b
  ·obtain⟨x,z⟩:∃x,g[t]? =some x:=⟨_,zE (by rw[dW.out];exact ao)⟩
   have T:=bn.out t x wr z G j y u;have bq:=zF q 0 rfl;have eg:(t:Int) < (b:Int):=by omega
   obtain⟨b5,a2⟩:∃s,yM (Tp.say p x)=s:=⟨_,rfl⟩;rw[a2]at T;have b8:A7 g p t #[V I (t:Int),b5] xO wr:=⟨⟨x,z,by rw[a2]⟩,rfl⟩;obtain⟨db,b1,cm,df,cb,bw⟩:=zx6 T G j q y u;obtain⟨dc,b2,ch⟩:=zx3 ac a1 b8;clear T G j q y u ac a1 b8 z a2
   go_upto_region 3 with (fail)
   refine(wpIn_wide (n:=4)).1 ?_
   gi_wp2
   refine⟨trivial,callsIn_wide.2 (db.out.mono ?_)⟩;rintro e a9 ⟨rfl,a3⟩;have cf:Far xO wr a9:=Far.of_below a3 xO;have dg:=d0.out t D wr a9 dc.out (Far.of_below a3 _);obtain⟨ep,en,assign,body,ca,bm⟩:=ct.out t ao D xO #[V I (t:Int),b5] a9 dg ch.out (λk m=>m.elim);obtain⟨a5,L⟩:=zx2 bm cf;clear bm a3 cf dg db
   gi_wp2
   refine(a5.out).mono ?_;rintro e H ⟨ab,⟨C,a0⟩,(⟨rfl,be⟩|⟨rfl,cS⟩)⟩
   ·have ef:=L.out.size
    have ej:=C.size;have E:∀k,D k->¬(k=r\/k=c\/k < 10\/d k\/o k):=b2.out;have G:=(b1.out.far L.out (λ_ _ _ e=>e)).far C (λk X _ e=>E k e (.inr (.inr (.inr (.inl X)))));have j:=C.heap (L.out.heap cm.out id) (λe=>E _ e (.inr (.inl rfl)));have q:=C.heap (L.out.heap df.out id) (λe=>E _ e (.inl rfl));have y:=(cb.out.far L.out (λ_ _ _ e=>e)).far C (λk X _ e=>E k e (.inr (.inr (.inr (.inr X)))));have u:=(bw.out.far L.out (λ_ _ e=>e)).far C (λk X e=>E k e (.inr (.inr (.inl X))));have cl:∀k,ab k->¬(k=r\/k=c\/k < 10\/d k\/o k):=by
     intro k m;rcases a0 k m with m|m|m
     ·exact E k m
     ·exact m.elim
     ·intro e
      rcases e with e|e|e|e|e
      ·omega
      ·omega
      ·omega
      ·have:=dr.out k e;omega
      ·have:=ds.out k e;omega
    have dJ:=zD (show yc H d g (Y a b A)/\H.heap[c]? =some (.cells #[V I 0,(Y a b A),(Y R b P)] 319 (0,0))/\H.heap[r]? =some (.cells #[Z (some ⟨c,0,O⟩)] 246 (0,0))/\Row H o b (Y R b P) (xP p)/\Glob H/\B<=H.heap.size/\J (t+1) ab H/\(∀k,ab k->¬(k=r\/k=c\/k < 10\/d k\/o k))from ⟨G,j,q,y,u,by omega,be,cl⟩);clear G j q y u be cl E C a0 L b1 cm df cb bw dc b2 ch a5 ca
    gi_wp2
    go_wp2_with fail
    go_roundw
    case rel=>exact⟨t+1,ab,by go_num,ao,dJ.out⟩
    case measure=>simp[Lib.intOf];omega
   ·have d4:=zD cS
    clear cS C a0 a5 ca
    gi_wp2
    go_wp2_with fail
    try rw[Exit.noGoto_normal]
    go_end0
    exact⟨⟨_,rfl⟩,.inr ⟨ab,d4.out⟩⟩
  ·obtain rfl:t=b:=by omega
   have ei:¬(t:Int) < (t:Int):=by omega
   have dp:=zD ac;clear G j q y u ac a1
   go_wp2_with fail
   try rw[Exit.noGoto_normal]
   go_end0
   exact⟨⟨_,rfl⟩,.inl ⟨D,dp.out,trivial⟩⟩
end
theorem cD{α:Type}[DecidableEq α](l:List α)(x:α):Tp.firsts (l++[x])=if x∈Tp.firsts l then Tp.firsts l else Tp.firsts l++[x]:=by
 unfold Tp.firsts;rw[List.foldl_append];rfl
theorem vF{α:Type}[DecidableEq α](a c:List α)(x:α)(b:x∈a):Tp.idx (a++c) x=Tp.idx a x:=by
 unfold Tp.idx;rw[List.idxOf_append,if_pos b]
def zu(g:List Tp.Nd)(a:List Nat):List Tp.Say:=g.map (Tp.say a)
def yu(a:List Tp.Say)(t:Nat):List Tp.Say:=Tp.firsts (a.take t)
def zi(a:List Tp.Say)(t:Nat):List Nat:=(a.take t).map (Tp.idx (yu a t))
theorem jR(a:List Tp.Say):yu a 0=[]:=by simp[yu,Tp.firsts]
theorem iV(a:List Tp.Say)(t:Nat)(s:Tp.Say)(b:a[t]? =W s)(c:s∈yu a t):yu a (t+1)=yu a t:=by
 unfold yu at *;rw[zG,b];show Tp.firsts (a.take t++[s])=_;rw[cD,if_pos c]
theorem eW(a:List Tp.Say)(t:Nat)(s:Tp.Say)(b:a[t]? =W s)(c:s ∉ yu a t):yu a (t+1)=yu a t++[s]:=by
 unfold yu at *;rw[zG,b];show Tp.firsts (a.take t++[s])=_;rw[cD,if_neg c]
theorem nw(a:List Tp.Say)(t:Nat)(s:Tp.Say):s∈a.take t↔s∈yu a t:=by
 unfold yu;exact(Tp.bH _ _).symm
theorem ql(a:List Tp.Say)(t:Nat)(s:Tp.Say)(b:a[t]? =W s):zi a (t+1)=zi a t++[Tp.idx (yu a (t+1)) s]:=by
 unfold zi;rw[zG,b,List.map_append];congr 1
 apply List.map_congr_left
 intro x d;by_cases c:s∈yu a t
 ·rw[iV a t s b c]
 ·rw[eW a t s b c]
  exact vF _ _ x ((nw a t x).1 d)
theorem iS(a:List Tp.Say)(t:Nat)(b:t<=a.length):(zi a t).length=t:=by simp[zi];omega
theorem eU(g:List Tp.Nd)(a:List Nat):Tp.round g a=(zi (zu g a) g.length,(yu (zu g a) g.length).length):=by
 have b:(zu g a).take g.length=zu g a:=zR (by simp[zu]);unfold Tp.round zi yu;rw[b];rfl
theorem gY(a:List Tp.Say)(t:Nat):(yu a t).Nodup:=Tp.eD _
theorem eX(a:List Tp.Say):∀t,(yu a t).length<=t
 |0=>by rw[jR];exact η _
 |t+1=>by
  have d:=eX a t;cases b:a[t]? with
  |none=>
   have:a.take (t+1)=a.take t:=by rw[zG,b];simp
   unfold yu at *;rw[this];omega
  |some s=>
   by_cases c:s∈yu a t
   ·rw[iV a t s b c];omega
   ·rw[eW a t s b c,zP];simp;omega
def yY:List Tp.Say->Nat->List (Value × Value)
 | [],_=>[]
 |s::r,k=>(yM s,V I (k:Int))::yY r (k+1)
theorem iU:∀(l:List Tp.Say) (k:Nat),(yY l k).length=l.length
 | [],_=>rfl
 |_::r,k=>by rw[yY,zO,iU r,zO]
theorem jQ:∀(l:List Tp.Say) (s:Tp.Say) (k:Nat),yY (l++[s]) k=yY l k++[(yM s,V I ((k+l.length:Nat):Int))]
 | [],s,k=>rfl
 |j::r,s,k=>by
  rw[List.cons_append,yY,jQ r s (k+1),yY,List.cons_append,zO,show k+1+r.length=k+(r.length+1)by omega]
theorem iP{a c:Tp.B}(b:xR a=xR c):a=c:=by
 unfold xR at b
 simpa using b
theorem eT{s t:Tp.Say}(b:yM s=yM t):s=t:=by
 obtain⟨a,⟨u,y,d⟩,e,o⟩:=s;obtain⟨q,⟨n,m,v⟩,r,w⟩:=t;unfold yM at b;simp only[Value.agg.injEq]at b;have b:=Array.mk.inj b;simp only[List.cons.injEq,and_true]at b;obtain⟨g,c,j,f,i,k⟩:=b;have x:=iP f;have l:=iP i;have p:=iP k;simp only[Value.int.injEq,true_and]at g c j
 simp_all
theorem eV:∀(l:List Tp.Say) (k:Nat) (p:Value × Value),p∈yY l k->∃s,s∈l/\p.1=yM s
 | [],k,p,a=>by simp[yY]at a
 |j::r,k,p,a=>by
  simp only[yY,List.mem_cons]at a;rcases a with rfl|a
  ·exact⟨j,by simp,rfl⟩
  ·obtain⟨i,a,b⟩:=eV r (k+1) p a
   exact⟨i,by simp[a],b⟩
theorem lZ:∀(l:List Tp.Say) (k:Nat) (s:Tp.Say),s∈l->(yM s,Value.int I ((k+Tp.idx l s:Nat):Int))∈yY l k
 | [],k,s,a=>by simp at a
 |j::r,k,s,a=>by
  by_cases e:s=j
  ·subst e;rw[Tp.bp,if_pos rfl];simp[yY]
  ·have b:s∈r:=by simpa [e]using a
   have:=lZ r (k+1) s b;simp only[yY,List.mem_cons];right
   rw[Tp.bp,if_neg (λa=>e a.symm),show k+(Tp.idx r s+1)=k+1+Tp.idx r s by omega];exact this
theorem iT:∀(l:List Tp.Say) (k:Nat) (s:Tp.Say),l.Nodup->∀p∈yY l k,p.1=yM s->p.2=V I ((k+Tp.idx l s:Nat):Int)
 | [],k,s,_,p,a,_=>by simp[yY]at a
 |j::r,k,s,hn,p,a,h1=>by
  obtain⟨d,f⟩:=List.nodup_cons.1 hn;simp only[yY,List.mem_cons]at a;rcases a with rfl|a
  ·have:j=s:=eT h1
   subst this;rw[Tp.bp,if_pos rfl];rfl
  ·obtain⟨m,c,b⟩:=eV r (k+1) p a
   rw[b]at h1;have:m=s:=eT h1;subst this;have e:m≠j:=λe=>d (e ▸ c);rw[iT r (k+1) m f p a b,Tp.bp,if_neg (λa=>e a.symm),show k+(Tp.idx r m+1)=k+1+Tp.idx r m by omega]
section
attribute [local go_sem] ak
attribute [local go_sem] Oper.semAt_some
theorem uF{a:World}{c:Nat}{b:List (Value × Value)}(e:xW π 387 a c b):∀d,(Builtin.len_ #[382] d #[.map (W c)]).run π a=.ok (.int I (b.length:Int)) a:=by
 obtain⟨⟨g,i,f,rfl⟩,_⟩:=e;intro d;simp[Builtin.len_,run_underlying underlying382,MapKept.run_getObj_map f,goInt,Result.andThen]
structure RdI(b:Nat)(w:World)(mb q0 q1 nb N:Nat)(L:List Tp.Say)(t:Nat)(F:NS)(W:World):Prop where
 fr:F=λk=>k=mb\/k=nb
 le:t<=N
 c0:W.heap[q0]? =some (J #[.map (some mb)] 382 (0,0))
 c1:W.heap[q1]? =some (J #[Y (some ⟨nb,0,O⟩) N N] 122 (0,0))
 mp:xW π 387 W mb (yY (yu L t) 0)
 pr:PR W nb (xP (zi L t++List.replicate (N - t) 0))
 far:Below b w W
theorem uo(b:World)(q d a:Nat)(c B:List Nat)(o:c.length=a)(v:B.length=a)(e:PR b q (xP c))(r:PR b d (xP B)):
 ∃f,(Builtin.copy_ #[122,122] 3 #[Y (W ⟨q,0,O⟩) a a,Y (W ⟨d,0,O⟩) a a]).run π b=.ok (V I (a:Int)) f/\PR f q (xP B)/\Far (·=q) b f:=by
 obtain⟨z,t,w,n,y⟩:=info_parts gI;have p:(prog.info? 3).map (·.size)=W 1:=by rw[t];simp[n]
 have x:(xP c).length=a:=by simp[xP,o]
 have l:(xP B).length=a:=by simp[xP,v]
 have m:=run_copy_cells (P:=π) b 122 122 3 3 q 0 a a ⟨d,0,O⟩ a a (xP B) underlying122 p (by rw[l];exact(Nat.min_self a).symm) (λj u g=>by rw[gK];exact r.cell g) (λj g=>by
  rw[Nat.zero_add,e.cell (zE (by omega))];rfl) (λj g=>e.frozen _) (by intro u s;obtain⟨i,_,rfl⟩:=List.mem_map.1 s;rfl)
 have k:=fI (xP B) 0 b (xP c) e (by omega);rw[List.take_zero,List.nil_append,Nat.zero_add,List.drop_of_length_le (by omega),List.append_nil]at k;exact⟨_,by rw[m,l];rfl,k,eJ _ _ _⟩
theorem qv(g:List Tp.Nd)(H:List Nat)(v:Value)(dc:NS)(C E:Nat)(w:World)(es:yc w dc g v)(u:w.heap[C]? =W (J #[.int I 0,v,(Y (W ⟨E,0,O⟩) g.length g.length)] 319 (0,0)))(dm:PR w E (xP H))(di:H.length=g.length)(fL:∀gr∈H,gr<=1000000)(cT:Glob w)(fl:∀x∈g,AP g H x)(ep:∀s∈zu g H,∃l,keyOf π 387 (yM s)=W l)(f1:∀k,dc k->k < w.heap.size/\k≠E)(hl:g.length<=200)(hC:C≠E):
 Calls π 161 #[.pointer (W ⟨C,0,O⟩)] w λe w'=>e=ρ (.int I ((Tp.round g H).2:Int))/\PR w' E (xP (Tp.round g H).1)/\Far (·=E) w w':=by
 rw[eU];obtain⟨a,ad⟩:∃m,w.heap.size=m:=⟨_,rfl⟩;have er:=aL (P:=π) (K:=387) w;rw[ad]at er;have he:=@run_makeMap π;generalize hNN:g.length=b at u di hl ⊢;obtain⟨f,c9⟩:∃f,zu g H=f:=⟨_,rfl⟩;have fG:∀(t:Nat) (x:Tp.Nd),g[t]? =W x->f[t]? =W (Tp.say H x):=λt x d=>by rw[<-c9];unfold zu;rw[List.getElem?_map,d];rfl
 have f3:f.length=b:=by rw[<-c9,<-hNN];simp[zu]
 rw[c9]at ep ⊢;have eM:Far xO w ((w.alloc (.map #[] 0)).alloc (J #[.map (W a)] 382)):=((ξ _ w).alloc _).alloc _;obtain⟨o,fw,ei,c3⟩:=fP b (by omega) ((w.alloc (.map #[] 0)).alloc (J #[.map (W a)] 382));have d4:((w.alloc (.map #[] 0)).alloc (J #[.map (W a)] 382)).heap.size=a+2:=by simp[ad]
 have fu:((w.alloc (.map #[] 0)).alloc (J #[.map (W a)] 382)).heap[a+1]? =W (J #[.map (W a)] 382 (0,0)):=ah _ _ _ (by simp[ad]);rw[d4]at fw ei c3;obtain⟨fc,fT,f5,_⟩:=bv u;obtain⟨gk,hk,rfl,_⟩:=es.form;have f2:=eM.heap u id;obtain⟨ha,gO,hm,_⟩:=bv f2;obtain⟨fn,dp⟩:=zx2 eM ei;have fY:=c3;obtain⟨g0,fS⟩:=zx2 c3 fu;have e9:=zD ((er.far ((ξ xO _).alloc (J #[.map (W a)] 382)) (λe=>e)));clear eM ei c3 fu er f2;refine callsIn_wide.1 (callsIn_of_wp_marks (n:=5) func161 rfl trivial (wpIn_wide.2 ?_));simp only[ntmps161,List.size_toArray,zO,List.length_nil,Nat.reduceAdd,Nat.reduceSub,Array.replicate_succ,Array.replicate_zero,List.push_toArray,List.append_toArray,List.nil_append,List.cons_append]
 go_wp2_with fail
 refine(lY _ _).mono ?_;rintro e hw ⟨rfl,rfl⟩;obtain⟨G,b0⟩:∃q,o.heap.size=q:=⟨_,rfl⟩;have ht:a+3<=G:=by have:=dp.out.lt;omega
 have b8:Far xO o ((o.alloc (J #[Y (W ⟨a+2,0,O⟩) b b] 122)).alloc (J #[.pointer (W ⟨C,0,O⟩)] 246)):=((ξ _ o).alloc _).alloc _;have dg:Far xO ((w.alloc (.map #[] 0)).alloc (J #[.map (W a)] 382)) o:=Far.of_below (by rw[d4];exact fY) _;have a2:Far xO w ((o.alloc (J #[Y (W ⟨a+2,0,O⟩) b b] 122)).alloc (J #[.pointer (W ⟨C,0,O⟩)] 246)):=(fn.out.trans dg).trans b8;have c6:((o.alloc (J #[Y (W ⟨a+2,0,O⟩) b b] 122)).alloc (J #[.pointer (W ⟨C,0,O⟩)] 246)).heap.size=G+2:=by simp[b0]
 have f8:((o.alloc (J #[Y (W ⟨a+2,0,O⟩) b b] 122)).alloc (J #[.pointer (W ⟨C,0,O⟩)] 246)).heap[G+1]? =W (J #[.pointer (W ⟨C,0,O⟩)] 246 (0,0)):=ah _ _ _ (by simp[b0]);have ga:((o.alloc (J #[Y (W ⟨a+2,0,O⟩) b b] 122)).alloc (J #[.pointer (W ⟨C,0,O⟩)] 246)).heap[G]? =W (J #[Y (W ⟨a+2,0,O⟩) b b] 122 (0,0)):=by rw[<-b0];exact aa _ (af o _)
 have c2:=dm.far a2 id;have fs:Row ((o.alloc (J #[Y (W ⟨a+2,0,O⟩) b b] 122)).alloc (J #[.pointer (W ⟨C,0,O⟩)] 246)) (·=E) b (Y (W ⟨E,0,O⟩) b b) (xP H):=⟨_,E,0,b,rfl,⟨η _,by unfold maxLen;omega⟩,λ_=>rfl,λ_=>⟨rfl,c2.lt,λi hb r=>by rw[Nat.zero_add];exact c2.cell r⟩⟩;have dC:∀k,dc k->k < a:=λk R=>ad ▸ (f1 k R).1;have hu:E < a:=ad ▸ dm.lt;have gx:C < a:=ad ▸ lt_of_heap u;have hx:10<=a:=ad ▸ cT.1;have d0:=qj g H (Y gk g.length hk) (Y (W ⟨E,0,O⟩) b b) dc (·=E) (G+1) C ((o.alloc (J #[Y (W ⟨a+2,0,O⟩) b b] 122)).alloc (J #[.pointer (W ⟨C,0,O⟩)] 246)) (es.far a2 (λ_ _ _ e=>e)) (a2.heap u id) f8 (by rw[hNN];exact fs) (by rw[hNN];exact di) fL (cT.far a2 (λ_ _ e=>e)) fl (λk R=>by have:=dC k R;rw[c6];omega) (λk R=>by subst R;rw[c6];omega);rw[hNN]at d0;have df:RdI a w a (a+1) G (a+2) b f 0 (λk=>k=a\/k=a+2) ((o.alloc (J #[Y (W ⟨a+2,0,O⟩) b b] 122)).alloc (J #[.pointer (W ⟨C,0,O⟩)] 246)):=⟨rfl,z_ _,b8.heap (dg.heap fS.out id) id,ga,by rw[jR];exact(e9.out.far dg id).far b8 id,by
  have:zi f 0++List.replicate (b - 0) 0=List.replicate b 0:=by simp[zi]
  rw[this];exact dp.out.far b8 id,ad ▸ a2.to_below (η _) (λ_ _ e=>e)⟩
 obtain⟨hj,gR,ca,e4,gM,ge⟩:=zx6 df d0 c6 dC fG ep;obtain⟨f4,hq,hH⟩:=zx3 f3 a2 c2;have ex:=zD (θ dm (θ di u));have hA:=zD (a2.heap u id);have al:=zD ad;have f9:(o.alloc (J #[Y (W ⟨a+2,0,O⟩) b b] 122)).heap.size=G+1:=by simp[b0]
 clear es u dm fL cT fl ep f1 b8 dg a2 f8 ga c2 fs dC d0 df c6 c9 fG f3 fn dp g0 fS e9 fw he fc fT f5 ha gO hm hNN di;rw[f9,b0];generalize ((o.alloc (J #[Y (W ⟨a+2,0,O⟩) b b] 122)).alloc (J #[.pointer (W ⟨C,0,O⟩)] 246))=gZ at *;clear f9 b0 d4 fY ad
 go_wp2_with fail
 refine wpIn_wide.1 (aC (n:=5) (gf:=244) (lb:=#[.pointer (W ⟨G+1,0,O⟩)]) rfl (λargs wx=>sd args wx)
  gR.out (λk e=>e.elim) (λk e=>by have:=ca.out;rcases e with rfl|rfl|e|e|e;omega;omega;omega;(have:=e4.out k e;omega);(subst e;omega)) (λt v gQ c d=>by obtain⟨⟨x,_,rfl⟩,_⟩:=d;rfl)
  (RdI a w a (a+1) G (a+2) b f) (λ_ _ _=>False) (λk=>k=a\/k=a+2) (λk d=>?hF0) hj.out ?hI (λ_ _ _ _ d _=>d) (λ_ _ _ _=>trivial) (λ_ _ _ _=>trivial) ?round ?done (λ_ _ _ d=>d.elim))
 case hF0=>
  have:=ca.out;exact⟨λe=>e,λe=>by rcases e with e|e|e|e|e;omega;omega;omega;(have:=e4.out k e;omega);omega,by omega,by omega,λ_=>by omega⟩
 case hI=>
  rintro t e5 c hd ⟨rfl,dj,M,N,a4,ao,y⟩ b6;have b4:∀i,i < G+2->¬y8 xO (λk=>k=a\/k=a+2) gZ.heap.size i:=λi en e=>by have:=ca.out;rcases e.2 with d|d;exact d;omega
  exact⟨rfl,dj,b6.heap M (b4 _ (by omega)),b6.heap N (b4 _ (by omega)),a4.far b6 (b4 _ (by omega)),ao.far b6 (b4 _ (by omega)),y.trans (b6.to_below (by have:=y.size;have:=al.out;omega) (λi en=>b4 i (by omega)))⟩
 case round=>
  rintro t e5 gQ hb c hy e2 fr ⟨rfl,g3,M,N,a4,ao,y⟩ ⟨⟨x,dv,rfl⟩,rfl⟩ cT d2 bw;have db:=ca.out;rw[db]at fr d2;obtain⟨f7,e1⟩:∃s,Tp.say H x=s:=⟨_,rfl⟩;have S:=gM.out t x dv;rw[e1]at S ⊢;obtain⟨hv,bs⟩:=ge.out f7 (zL S);obtain⟨K,⟨T,X,ct⟩,dl,c0⟩:=f7;have av:yM (K,⟨T,X,ct⟩,dl,c0)=γ #[.int I K,.int I T,.int I X,xR ct,xR dl,xR c0]:=rfl;obtain⟨s,bx⟩:∃s,((K,⟨T,X,ct⟩,dl,c0):Tp.Say)=s:=⟨_,rfl⟩;obtain⟨bn,f6⟩:∃b5,xR ct=.string b5:=⟨_,rfl⟩;obtain⟨ba,fX⟩:∃b5,xR dl=.string b5:=⟨_,rfl⟩;obtain⟨be,e7⟩:∃b5,xR c0=.string b5:=⟨_,rfl⟩;rw[f6,fX,e7]at av;rw[av];rw[bx]at av S bs;clear bx e1 f6 fX e7
  gi_wp2
  refine bw _ _ ((ξ _ c).alloc _) ?_;intro o cb _ _;rw[db]at cb;have bb:Far (·=G+2+1) c o:=((ξ xO c).alloc (J #[.int I K,.int I T,.int I X,.string bn,.string ba,.string be] 387) |>.mono (λ_ _ e=>e.elim)).trans cb;have a1:=cb.heap (af c (J #[.int I K,.int I T,.int I X,.string bn,.string ba,.string be] 387)) (by omega);generalize u:c.heap.size=p at a1 fr ⊢;have bD:=bb.heap M (by omega);have bR:=bb.heap N (by omega);have ac:=a4.far bb (by omega);have bm:=ao.far bb (by omega);have b1:=y.trans (bb.to_below (by have:=y.size;have:=al.out;omega) (λk R e=>by omega));generalize hnb:a+2=A at bR bm ⊢;obtain⟨an,bk⟩:∃an,yY (yu f t) 0=an:=⟨_,rfl⟩;have c1:=ql f t s S;obtain⟨z,hI⟩:∃z,Tp.idx (yu f (t+1)) s=z:=⟨_,rfl⟩;rw[hI]at c1;have cm:s∈yu f (t+1):=by
   by_cases bx:s∈yu f t
   ·rw[iV f t s S bx];exact bx
   ·rw[eW f t s S bx];simp
  obtain⟨ch,a6⟩:∃an,yY (yu f (t+1)) 0=an:=⟨_,rfl⟩;have cv:∀c,xW π 387 c a ch->(Instr.lookup 382 (.map (W a)) (γ #[.int I K,.int I T,.int I X,.string bn,.string ba,.string be]) false).run π c=.ok (.int I (z:Int)) c:=by
   intro c g1;have:=g1.look_in eY underlying382 (gC _) (yM s) bs false (.int I (z:Int)) (by rw[<-a6,<-hI];have:=lZ (yu f (t+1)) 0 s cm;rw[Nat.zero_add]at this;exact this) (λp u a0=>by
    rw[<-a6]at u;have:=iT (yu f (t+1)) 0 s (gY _ _) p u a0;rw[this,hI,Nat.zero_add])
   rw[av]at this
   simpa using this
  have eg:=iS f t (by rw[f4.out];omega);have cS:(xP (zi f t++List.replicate (b - t) 0)).set t (.int I (z:Int))=xP (zi f (t+1)++List.replicate (b - (t+1)) 0):=by
   rw[c1];unfold xP;rw[show (Value.int I (z:Int))=(λi:Nat=>Value.int I (i:Int)) z from rfl,<-List.map_set,List.set_append_right _ _ (by omega),eg,Nat.sub_self,show b - t=(b - (t+1))+1 by omega,List.replicate_succ,zB,List.append_assoc];rfl
  have hG:z < 1000:=by
   have dj:=eX f (t+1);have M:=Tp.kN _ _ cm;omega
  have hF:a < p/\A < p/\G < p/\a+1 < p:=by omega
  by_cases b2:s∈yu f t
  ·have b9:an=ch:=by rw[<-bk,<-a6,iV f t s S b2]
   obtain⟨a3,hc⟩:∃c,o=c:=⟨_,rfl⟩;have gl:(Instr.lookup 382 (.map (W a)) (γ #[.int I K,.int I T,.int I X,.string bn,.string ba,.string be]) true).run π o=.ok (.tuple #[.int I (z:Int),.bool true]) o:=by
    rw[bk,b9]at ac;have:=ac.look_in eY underlying382 (gC _) (yM s) bs true (.int I (z:Int)) (by rw[<-a6,<-hI];have:=lZ (yu f (t+1)) 0 s cm;rw[Nat.zero_add]at this;exact this) (λp u a0=>by
     rw[<-a6]at u;have:=iT (yu f (t+1)) 0 s (gY _ _) p u a0;rw[this,hI,Nat.zero_add])
    rw[av]at this
    simpa using this
   rw[bk,b9]at ac;have a5:=ac;have da:=zF bR 0 rfl;have c5:=zF bD 0 rfl;obtain⟨dr,d1,dn,dW,d5,ek,_⟩:=pE a1;have ab:=aQ bm t (.int I (z:Int));rw[cS]at ab;have L:Far (·=A) o (o.setCell ⟨A,t,O⟩ (.int I (z:Int))):=Far.setCell (D:=(·=A)) (ξ _ _) (p:=⟨A,t,O⟩) (λ_=>rfl) _;have cl:=(vf bm (i:=t) (by simp[xP];omega));obtain⟨u9,cl⟩:=cl;have g6:=bm.frozen t;have cf:=θ (L.heap bD (by omega)) (θ (L.heap bR (by omega)) (θ (a5.far L (by omega)) (θ ab (θ (b1.trans (L.to_below (by have:=b1.size;have:=al.out;omega) (λk R e=>by omega))) (L.mono (D':=λk=>k=a\/k=A) (λk _ e=>.inr e))))));have df:(0:Int)<=(t:Int):=by omega
   have gJ:(t:Int) < (b:Int):=by omega
   have ds:=lt_of_heap a1;clear bD bR ac bm b1 M N a4 ao y hc ab L bb cb bw dv a1 S bs av c1 cm eg cS b2;rw[db]
   gi_wp2_with (fail)
   have cc:=zD cv;have gd:Far xO o o.drew:=(ξ _ o).drew;refine aN (λc=>c.cell? ⟨G,0,O⟩=W (Y (W ⟨A,0,O⟩) b b)/\c.cell? ⟨a+1,0,O⟩=W (.map (W a))/\c.cell? ⟨p,0,O⟩=W (.int I K)/\c.cell? ⟨p,1,O⟩=W (.int I T)/\c.cell? ⟨p,2,O⟩=W (.int I X)/\c.cell? ⟨p,3,O⟩=W (.string bn)/\c.cell? ⟨p,4,O⟩=W (.string ba)/\c.cell? ⟨p,5,O⟩=W (.string be)/\xW π 387 c a ch) [6] (by kernel_rfl) (by kernel_rfl) (λd=>by obtain⟨_,_,d⟩:=d;exact d) ?_;refine aJ (by kernel_rfl) (λ_ _ _ _ d=>d) ⟨da,c5,dr,d1,dn,dW,d5,ek,a5⟩ 1 [0,1,2,3,4,5] _ _ (by kernel_rfl) ?_;iterate 6 (refine ax (v:=?_) ?_ ?_;rotate_left;·(intro d6 co;(try dsimp only at co);(try obtain⟨g2,gN,gc,hf,gj,hh,g4,g8,d3⟩:=co);have hn:=cc.out d6 d3;go_simp;try with_reducible rfl);(try go_frame))
   refine xT.done ?_;try dsimp only
   have ej:=zD cf;clear a5 cv cc cf;refine aq [6] ?_;refine aj rfl (λef ck=>?_) xQ.nil
   go_simp
   have F:Far xO (o.setCell ⟨A,t,O⟩ (.int I (z:Int))) (o.setCell ⟨A,t,O⟩ (.int I (z:Int))).drew:=(ξ _ _).drew;refine ck.out _ _ (λd=>absurd (by simp) d) ?_;clear ck ef
   (try go_frame)
   refine aP (by kernel_rfl) ?_ _;have r:=ej.out;rw[<-a6]at r;exact⟨_,⟨rfl,e2,F.heap r.1 id,F.heap r.2.1 id,r.2.2.1.far F id,r.2.2.2.1.far F id,r.2.2.2.2.1.trans (F.to_below (by have:=r.2.2.2.2.1.size;have:=al.out;omega) (λ_ _ e=>e))⟩,r.2.2.2.2.2.step F (λ_ _ e=>e.elim),λk d=>⟨.inl d,λ_=>by
    have dj:=r.2.2.2.2.2.size;have M:=F.size;have N:=ds;rcases d with d|d<;>omega⟩⟩
  ·have f0:an.length=(yu f t).length:=by rw[<-bk,iU]
   have gl:(Instr.lookup 382 (.map (W a)) (γ #[.int I K,.int I T,.int I X,.string bn,.string ba,.string be]) true).run π o=.ok (.tuple #[.int I 0,.bool false]) o:=by
    have:=ac.look_out eY underlying382 (gC _) (yM s) bs true (λp u a0=>by
     obtain⟨j,dA,el⟩:=eV _ _ _ u;rw[el]at a0;exact b2 (eT a0 ▸ dA))
    rw[av]at this
    simpa using this
   rw[bk]at ac;have hr:=uF ac;obtain⟨a3,gg,a5,a9⟩:=ac.put eY underlying382 (yM s) (.int I (an.length:Int)) bs (λp u a0=>by
    rw[<-bk]at u;obtain⟨j,dA,el⟩:=eV _ _ _ u;rw[el]at a0;exact b2 (eT a0 ▸ dA))
   have b9:an++[(yM s,.int I (an.length:Int))]=ch:=by rw[<-a6,eW f t s S b2,jQ,bk,f0,Nat.zero_add]
   rw[b9]at a5;rw[av]at gg;have hE:=zF bD 0 rfl;obtain⟨ho,hs,hB,hK,hD,hz,_⟩:=pE a1;have ds:=lt_of_heap a1;have eq:=a9.heap bD (by omega);have e0:=a9.heap bR (by omega);have c4:=bm.far a9 (by omega);have e8:=a9.heap a1 (by omega);have dJ:=b1.trans (a9.to_below (by have:=b1.size;have:=al.out;omega) (λk R e=>by omega));have da:=zF e0 0 rfl;have c5:=zF eq 0 rfl;obtain⟨dr,d1,dn,dW,d5,ek,_⟩:=pE e8;have ab:=aQ c4 t (.int I (z:Int));rw[cS]at ab;have L:Far (·=A) a3 (a3.setCell ⟨A,t,O⟩ (.int I (z:Int))):=Far.setCell (D:=(·=A)) (ξ _ _) (p:=⟨A,t,O⟩) (λ_=>rfl) _;have cl:=(vf c4 (i:=t) (by simp[xP];omega));obtain⟨u9,cl⟩:=cl;have g6:=c4.frozen t;have cf:=θ (L.heap eq (by omega)) (θ (L.heap e0 (by omega)) (θ (a5.far L (by omega)) (θ ab (θ (dJ.trans (L.to_below (by have:=dJ.size;have:=al.out;omega) (λk R e=>by omega))) ((a9.mono (D':=λk=>k=a\/k=A) (λk _ e=>.inl e)).step L (λk _ e=>.inr e))))));have df:(0:Int)<=(t:Int):=by omega
   have gJ:(t:Int) < (b:Int):=by omega
   clear bD bR ac bm b1 M N a4 ao y ab L bb cb bw dv a1 S bs av c1 cm eg cS b2 eq e0 c4 dJ e8 a9 f0 b9;rw[db]
   gi_wp2_with (fail)
   have cc:=zD cv;have gd:Far xO a3 a3.drew:=(ξ _ a3).drew;refine aN (λc=>c.cell? ⟨G,0,O⟩=W (Y (W ⟨A,0,O⟩) b b)/\c.cell? ⟨a+1,0,O⟩=W (.map (W a))/\c.cell? ⟨p,0,O⟩=W (.int I K)/\c.cell? ⟨p,1,O⟩=W (.int I T)/\c.cell? ⟨p,2,O⟩=W (.int I X)/\c.cell? ⟨p,3,O⟩=W (.string bn)/\c.cell? ⟨p,4,O⟩=W (.string ba)/\c.cell? ⟨p,5,O⟩=W (.string be)/\xW π 387 c a ch) [6] (by kernel_rfl) (by kernel_rfl) (λd=>by obtain⟨_,_,d⟩:=d;exact d) ?_;refine aJ (by kernel_rfl) (λ_ _ _ _ d=>d) ⟨da,c5,dr,d1,dn,dW,d5,ek,a5⟩ 1 [0,1,2,3,4,5] _ _ (by kernel_rfl) ?_;iterate 6 (refine ax (v:=?_) ?_ ?_;rotate_left;·(intro d6 co;(try dsimp only at co);(try obtain⟨g2,gN,gc,hf,gj,hh,g4,g8,d3⟩:=co);have hn:=cc.out d6 d3;go_simp;try with_reducible rfl);(try go_frame))
   refine xT.done ?_;try dsimp only
   have ej:=zD cf;clear a5 cv cc cf;refine aq [6] ?_;refine aj rfl (λef ck=>?_) xQ.nil
   go_simp
   have F:Far xO (a3.setCell ⟨A,t,O⟩ (.int I (z:Int))) (a3.setCell ⟨A,t,O⟩ (.int I (z:Int))).drew:=(ξ _ _).drew;refine ck.out _ _ (λd=>absurd (by simp) d) ?_;clear ck ef
   (try go_frame)
   refine aP (by kernel_rfl) ?_ _;have r:=ej.out;rw[<-a6]at r;exact⟨_,⟨rfl,e2,F.heap r.1 id,F.heap r.2.1 id,r.2.2.1.far F id,r.2.2.2.1.far F id,r.2.2.2.2.1.trans (F.to_below (by have:=r.2.2.2.2.1.size;have:=al.out;omega) (λ_ _ e=>e))⟩,r.2.2.2.2.2.step F (λ_ _ e=>e.elim),λk d=>⟨.inl d,λ_=>by
    have dj:=r.2.2.2.2.2.size;have M:=F.size;have N:=ds;rcases d with d|d<;>omega⟩⟩
 case done=>
  rintro e5 c ⟨rfl,g3,M,N,a4,ao,y⟩ _ bw d2;rw[ca.out]at bw ⊢;rw[Nat.sub_self,List.replicate_zero,List.append_nil]at ao;have fE:Far (·=E) w c:=⟨y.os,y.tape,y.output,y.size,λi en _=>y.block i (by have:=al.out;omega)⟩;have ft:PR c E (xP H):=ex.out.1.far (D:=λk=>a<=k) ⟨y.os,y.tape,y.output,y.size,λi en hJ=>y.block i (by omega)⟩ (by omega);have fR:=(y.block C gx).trans ex.out.2.2;have bq:Far xO c c.drew:=(ξ _ c).drew;obtain⟨hg,hp,ab,b3⟩:=uo c.drew E (a+2) b H (zi f b) ex.out.2.1 (iS f b (by rw[f4.out];omega)) (ft.far bq id) (ao.far bq id);have da:=zF N 0 rfl;obtain⟨fc,fT,f5,_⟩:=bv fR;have c5:=zF (b3.heap (bq.heap M id) (by omega)) 0 rfl;have e6:=(a4.far bq id).far b3 (by omega);have hi:=uF e6;rw[iU]at hi;have fv:=b3.heap (bq.heap bw id) (by omega);have fz:Far (·=E) w hg:=(fE.trans (bq.mono (λ_ _ e=>e.elim))).trans b3;obtain⟨gb,g5,g7⟩:=zx3 ab fz fv;clear M N a4 ao y fE ft fR bq ab b3 e6 fv fz bw d2
  go_wp2_with fail
  go_region
  go_wp2_with fail
  refine au (q:=G+2) rfl g7.out ?_;intro hd e3;exact⟨.int I ((yu f b).length:Int),by simp[results,results161,go_sem],rfl,gb.out.far e3 (by omega),g5.out.step e3 (λk R e=>by have:=al.out;omega)⟩
end
section
attribute [local go_sem] ak
theorem qu(g:List Tp.Nd)(a:List Nat):(Tp.round g a).1.length=g.length:=by
 rw[eU];exact iS _ _ (by simp[zu])
theorem tq(g:List Tp.Nd)(b:List Nat)(c:Nat)(a:c∈(Tp.round g b).1):c < g.length:=by
 rw[eU]at a;unfold zi at a;obtain⟨s,d,rfl⟩:=List.mem_map.1 a;have f:=Tp.kN _ _ ((nw _ _ s).1 d);have e:=eX (zu g b) g.length;omega
theorem tw(g:List Tp.Nd)(a:List Nat):(Tp.round g a).2<=g.length:=by
 rw[eU];exact eX _ _
def Ag(g:List Tp.Nd):Prop:=∀a:List Nat,a.length=g.length->(∀b∈a,b<=1000000)->(∀x∈g,AP g a x)/\∀s∈zu g a,∃l,keyOf π 387 (yM s)=W l
theorem oz(g:List Tp.Nd)(F:List Nat)(v:Value)(N:NS)(o a:Nat)(w:World)(G:yc w N g v)(D:w.heap[o]? =W (J #[V I 0,v,Y (W ⟨a,0,O⟩) g.length g.length] 319 (0,0)))(q:PR w a (xP (List.replicate g.length 0)))(av:Glob w)(a1:Ag g)(x:∀k,N k->k < w.heap.size/\k≠a)(a0:g.length<=200)(H:o≠a)(b3:10<=a)(y:Tp.classes g=W F):
 Calls π 117 #[Z (W ⟨o,0,O⟩)] w λe w'=>e=ρ (Y (W ⟨a,0,O⟩) g.length g.length)/\PR w' a (xP F)/\Far (·=a) w w':=by
 have z:∀(b:List Nat) (c:World),Far (·=a) w c->PR c a (xP b)->b.length=g.length->(∀d∈b,d<=1000000)->Calls π 161 #[Z (W ⟨o,0,O⟩)] c λe w'=>e=ρ (V I ((Tp.round g b).2:Int))/\PR w' a (xP (Tp.round g b).1)/\Far (·=a) c w':=by
  intro b c p i an a2;have h:=a1 b an a2;exact qv g b v N o a c (G.far p (λk r _ e=>(x k r).2 e)) (p.heap D H) i an a2 (av.far p (λk r e=>by omega)) h.1 h.2 (λk r=>⟨zK (x k r).1 p.size,(x k r).2⟩) a0 H
 have E:=z _ w (ξ _ w) q (by simp) (λd i=>by rw[List.eq_of_mem_replicate i];omega);unfold Tp.classes at y;have A:∀c,Far (·=a) w c->c.heap[o]? =W (J #[V I 0,v,Y (W ⟨a,0,O⟩) g.length g.length] 319 (0,0)):=λc p=>p.heap D H;have L:=qu g;have M:=tq g;have P:=tw g;obtain⟨b1,b4,rfl,_⟩:=G.form;generalize hNN:g.length=ac at E z y a0 A L M P ⊢;obtain⟨bn,T,bk,bb,ab,S⟩:=zx6 z E A y L M;have b2:=zD P;clear z E A y L M P G D q av a1 x hNN
 go_enter func117,ntmps117
 go_wp2_with fail
 refine T.out.mono ?_;rintro e bD ⟨rfl,R,a4⟩;obtain⟨bs,bw⟩:=zx2 R a4;clear R a4 T
 go_wp2_with fail
 go_loopg [4,5] 202 (λgg a9 bx wr=>∃(n l s:Nat) (b:List Nat),s=gg/\a9=V I (n:Int)/\bx=V I (l:Int)/\Tp.refine g s n (b,l)=W F/\PR wr a (xP b)/\b.length=ac/\(∀d∈b,d < ac)/\Far (·=a) w wr)
 case atStart=>exact⟨0,_,202,_,rfl,rfl,rfl,bb.out,bs.out,ab.out _,λd i=>S.out _ d i,bw.out⟩
 case round=>
  obtain⟨n,l,s,b,rfl,rfl,rfl,j,u,q,C,m⟩:=hrel;cases s with
  |zero=>simp[Tp.refine]at j
  |succ f=>
   simp only[Tp.refine]at j;by_cases ao:n < l
   ·rw[if_pos ao]at j
    have a5:=bn.out b wr m u q (λd i=>by have:=C d i;omega);have a6:(n:Int) < (l:Int):=by omega
    obtain⟨al,bm,t⟩:=zx3 a5 j m;clear a5 j m u C q
    go_wp2_with fail
    refine al.out.mono ?_;rintro e bR ⟨rfl,ad,X⟩;have be:=zD ad;have bq:=zD (t.out.step X (λ_ _ e=>e));clear ad X al t
    go_wp2_with fail
    go_roundg f
    case rel=>exact⟨l,(Tp.round g b).2,f,(Tp.round g b).1,rfl,rfl,rfl,bm.out,be.out,ab.out _,λd i=>S.out _ d i,bq.out⟩
    case measure=>omega
   ·rw[if_neg ao]at j
    injection j with j;subst j;have a6:¬(n:Int) < (l:Int):=by omega
    have b0:=zF (bk.out wr m) 2 rfl;obtain⟨t,ba⟩:=zx2 m u;clear m u C q
    go_wp2_with fail
    go_ret
    exact⟨rfl,ba.out,t.out⟩
end
section
attribute [local go_sem] ak
theorem tC(v:Value)(a:Option Addr)(b c:Nat)(L:v=Y a b c)(G:b<=1000000)(w:World):Calls π 116 #[γ #[V I 0,v]] w λe w'=>(∃k l,e=ρ (Z (W ⟨k,0,O⟩))/\w'.heap[k]? =W (J #[V I 0,v,Y (W ⟨l,0,O⟩) b b] 319 (0,0))/\PR w' l (xP (List.replicate b 0))/\w.heap.size<=l/\w.heap.size<=k/\k≠l)/\Below w.heap.size w w':=by
 subst L;have z:Below w.heap.size w (w.alloc (J #[V I 0,Y a b c] 54)):=(ζ _ w).alloc (η _) _;have o:=af w (J #[V I 0,Y a b c] 54);obtain⟨q,r⟩:∃q,w.heap.size=q:=⟨_,rfl⟩;rw[r]at o;obtain⟨i,m,_⟩:=bO o;obtain⟨j,P⟩:=zx2 z r;clear z o
 go_enter func116,ntmps116
 go_upto_region 1 with (fail)
 generalize (w.alloc (J #[V I 0,Y a b c] 54))=d at *;clear r;obtain⟨g,F,y,C⟩:=fP b G d.drew;have A:Far xO d g:=((ξ xO d).drew).below C;obtain⟨p,f⟩:=zx2 y A;clear y C A
 go_region_held3 (λu=>u.cell? ⟨q,0,O⟩=W (V I 0)/\u.cell? ⟨q,1,O⟩=W (Y a b c)) (first|exact⟨i,m⟩|exact⟨(f.out.at i id),(f.out.at m id)⟩|exact⟨((f.out.alloc _).at i id),((f.out.alloc _).at m id)⟩) (fail)
 have n:Far xO g (g.alloc (J #[V I 0,Y a b c,Y (W ⟨d.heap.size,0,O⟩) b b] 319)):=(ξ _ g).alloc _;have M:d.heap.size < g.heap.size:=p.out.lt;have x:=af g (J #[V I 0,Y a b c,Y (W ⟨d.heap.size,0,O⟩) b b] 319);have t:=p.out.far n id;have N:=j.out.size;have s:=j.out.trans ((f.out.trans n).to_below j.out.size (λ_ _ e=>e));obtain⟨E,H,D⟩:=zx3 x t s;clear n x t s F p f j i m
 go_wp2_with fail
 go_ret
 exact⟨⟨_,_,rfl,E.out,H.out,by omega,by omega,by omega⟩,D.out⟩
theorem mR(g:List Tp.Nd)(A:List Nat)(v:Value)(t:NS)(w:World)(p:yc w t g v)(l:∀k,t k->k < w.heap.size)(s:Glob w)(T:yt g)(R:Tp.okGr 0 g=true)(ao:Ag g)(a0:Tp.classes g=W A)(a1:g.length<=200):
 Calls π 82 #[γ #[V I 0,v]] w λe w'=>(∃b,e=ρ (.tuple #[Y (W ⟨b,0,O⟩) g.length g.length,V I 0])/\PR w' b (xP A)/\w.heap.size<=b)/\Below w.heap.size w w':=by
 have c:Below w.heap.size w (w.alloc (J #[V I 0,v] 54)):=(ζ _ w).alloc (η _) _;have d:=af w (J #[V I 0,v] 54);have L:=iE 0 t g v _ (p.below c) (λk j=>zK (l k j) c.size) (s.step c) T R;have z:=λn b f (G:Below w.heap.size w f) (bw:w.heap.size<=b) o m (C:n≠b)=>oz g A v t n b f (p.below G) o m (s.step G) ao (λk j=>⟨zK (l k j) G.size,by have:=l k j;omega⟩) a1 C (by have:=s.1;omega) a0;obtain⟨q,u⟩:∃q,w.heap.size=q:=⟨_,rfl⟩;rw[u]at d;obtain⟨N,a2,_⟩:=bO d;obtain⟨a,M,rfl,_⟩:=p.form;have D:=λf=>tC (Y a g.length M) a g.length M rfl (by omega) f;generalize hN:g.length=ba at c d L z D N a2 ⊢;obtain⟨y,x,ab,X,av,bD⟩:=zx6 c d L z D u;clear c d L z D p l s T R ao a0 a1 hN
 go_enter func82,ntmps82
 go_upto_region 1 with (fail)
 generalize (w.alloc (J #[V I 0,Y a ba M] 54))=bm at *;clear u
 go_wp2_with fail
 refine ab.out.mono ?_;rintro e bn ⟨rfl,H⟩;have P:=(H.block _ (lt_of_heap x.out)).trans x.out;have an:=y.out.trans (H.mono y.out.size);obtain⟨be,a6,_⟩:=bO P;have r:=zD an;clear P H an ab y x N a2
 go_wp2_with fail
 refine(av.out _).mono ?_;rintro e bk ⟨⟨n,b,rfl,o,m,a5,bq,C⟩,a4⟩;have F:=r.out.trans (a4.mono r.out.size);have a3:w.heap.size<=b:=Nat.le_trans r.out.size a5;have E:=zD F;have al:=zD (X.out n b bk F a3 o m C);clear a4 F o m r av X be a6
 go_wp2_with fail
 refine al.out.mono ?_;rintro e bs ⟨rfl,ac,S⟩;have ad:=E.out.trans (S.to_below E.out.size (λi bx e=>by omega));obtain⟨a9,bb⟩:=zx2 ac ad;clear ac S ad al E
 go_wp2_with fail
 go_ret2
 exact⟨⟨_,rfl,a9.out,a3⟩,bb.out⟩
end
section
attribute [local go_sem] ak
theorem oD(g:List Tp.Nd)(s:List Nat)(v:Value)(y:NS)(w:World)(t:yc w y g v)(G:∀k,y k->k < w.heap.size)(M:Glob w)(F:yt g)(E:Tp.okGr 0 g=true)(N:Ag g)(P:Tp.classes g=W s)(R:g.length<=200):
 Calls π 57 #[γ #[V I 0,v]] w λe w'=>(∃j b,e=ρ (.tuple #[Z (W ⟨j,0,O⟩),.nilIface])/\w'.heap[j]? =W (J #[V I 0,v,Y (W ⟨b,0,O⟩) g.length g.length] 178 (0,0))/\PR w' b (xP s)/\w.heap.size<=b/\w.heap.size<=j/\j≠b)/\Below w.heap.size w w':=by
 have d:Below w.heap.size w (w.alloc (J #[V I 0,v] 54)):=(ζ _ w).alloc (η _) _;have f:=af w (J #[V I 0,v] 54);have x:=mR g s v y _ (t.below d) (λk X=>zK (G k X) d.size) (M.step d) F E N P R;obtain⟨q,o⟩:∃q,w.heap.size=q:=⟨_,rfl⟩;rw[o]at f;obtain⟨A,S,_⟩:=bO f;obtain⟨a,z,rfl,_⟩:=t.form;generalize hN:g.length=c at d f x A S ⊢;obtain⟨l,p,L,a2⟩:=zx4 d f x o;clear d f x t G M F E N P R hN
 go_enter func57,ntmps57
 go_upto_region 1 with (fail)
 generalize (w.alloc (J #[V I 0,Y a c z] 54))=al at *;clear o
 go_wp2_with fail
 refine L.out.mono ?_;rintro e i ⟨⟨b,rfl,r,T⟩,u⟩;have C:=(u.block _ (lt_of_heap p.out)).trans p.out;have m:=l.out.trans (u.mono l.out.size);obtain⟨av,an,_⟩:=bO C;have n:Far xO i (i.alloc (J #[V I 0,Y a c z,Y (W ⟨b,0,O⟩) c c] 178)):=(ξ _ i).alloc _;have H:=af i (J #[V I 0,Y a c z,Y (W ⟨b,0,O⟩) c c] 178);have D:=r.far n id;have a0:=r.lt;have a1:w.heap.size<=b:=Nat.le_trans l.out.size T;have ao:=m.size;obtain⟨ac,ad⟩:=zx2 H D;have ab:=zD (m.trans (n.to_below m.size (λ_ _ e=>e)));clear n H D u m C r l p L A S
 go_wp2_with fail
 go_ret2
 exact⟨⟨_,_,rfl,ac.out,ad.out,by omega,by omega,by omega⟩,ab.out⟩
end
section
attribute [local go_sem] ak
theorem k9(b g:List Nat)(l L v:Value)(ao a9:NS)(x n:Nat)(w:World)(q:Row w ao b.length l (xP b))(M:w.heap[x]? =W (J #[V I 0,v,L] 178 (0,0)))(s:Row w a9 n L (xP g))(P:g.length=n)(d:∀k∈b,k < n)(bD:b.length<=1000000):
 Calls π 90 #[Z (W ⟨x,0,O⟩),l] w λe w'=>(∃G,e=ρ G/\Row w' (New w) b.length G (xP (b.map λk=>g.getD k 0)))/\Below w.heap.size w w':=by
 obtain⟨a1,ba,ad,bm,a6⟩:=info_parts gI;obtain⟨a,F,rfl,_⟩:=q.form;obtain⟨b0,ac,rfl,_⟩:=s.form;generalize hNN:b.length=i at q bD ⊢;obtain⟨bq,D,bs,a0⟩:=zx4 q M s d;have A:=zD (θ hNN P);clear q M s d hNN P
 go_enter func90,ntmps90
 go_wp2_with fail
 go_loopw [5,10] (λbb u wr=>∃(t:Nat) (o:Option Addr) (p r:Nat),bb=Y o p r/\t<=i/\u=V I (t:Int)/\wr.ownsRow w.heap.size 3 1 (Y o p r) t (xP ((b.take t).map λk=>g.getD k 0))/\Below w.heap.size w wr) (λ_ u _=>i - (Lib.intOf u).toNat)
 case atStart=>exact⟨0,_,_,_,rfl,z_ _,rfl,World.ownsRow_nil _ _ _ _,ζ _ _⟩
 case round=>
  obtain⟨t,o,p,r,rfl,b3,rfl,f,c⟩:=hrel;by_cases ab:t < i
  ·obtain⟨k,d⟩:∃k,b[t]? =W k:=⟨_,zE (by rw[A.out.1];exact ab)⟩
   have R:=a0.out k (zL d);obtain⟨m,C⟩:∃F,g[k]? =W F:=⟨_,zE (by rw[A.out.2];exact R)⟩;obtain⟨ck,b2,b4,S,_,b1,cc⟩:=(bq.out.below c).nat d;injection S with e11 e12 e13;clear e12;subst e11 e13;obtain⟨be,av,cf,a5,_,ch,b9⟩:=(bs.out.below c).nat C;injection a5 with e21 e22 e23;clear e22;subst e21 e23;have cb:wr.cell? ⟨x,2,O⟩=W (Y (W ⟨be,av,O⟩) n ac):=ae ((c.block _ (lt_of_heap D.out)).trans D.out) 2;have N:xP ((b.take (t+1)).map λk=>g.getD k 0)=xP ((b.take t).map λk=>g.getD k 0)++[V I (m:Int)]:=by
    rw[zG,d,List.map_append];simp[xP,zY,C]
   have X:(t:Int) < (i:Int):=by omega
   have b8:(0:Int)<=(t:Int):=by omega
   have bR:(k:Int) < (n:Int):=by omega
   have cl:(0:Int)<=(k:Int):=by omega
   have y:Below w.heap.size w (wr.alloc (J #[V I (m:Int)] 3)):=c.alloc c.size _;have E:=am f ((ξ xO wr).alloc (J #[V I (m:Int)] 3)) (λ_ _ e=>e);obtain⟨a2,H⟩:=zx2 E y;have an:=zD f.lt;have a4:=zD N;have bw:=y.size;clear f E y c d C N
   go_wp2_with (at_builtin;refine wpList_append_own _ rfl (.tmp 14) (.tmp 22) 122 rfl w.heap.size 3 a1 _ 1 8 underlying122 ba ad bm a6 rfl (by decide) (Y o p r) t _ rfl a2.out ⟨wr.heap.size,0,O⟩ 1 1 [V I (m:Int)] rfl rfl (λj b6 T=>by rw[gK];exact(ae (af _ _) j).trans (by simpa using T)) (by simp[Value.oneCell']) (by unfold maxLen;omega) (by omega) (by simpa using bw) ?_;intro ca w5 z bx _)
   obtain⟨gg,cap,rfl,b5,_⟩:=aA z;rw[<-a4.out]at z;have bn:=H.out.grown bx H.out.size (λk e=>(an.out k e).1)
   go_roundw
   case rel=>exact⟨t+1,_,_,_,rfl,by omega,by go_num,z,bn⟩
   case measure=>simp[Lib.intOf];omega
  ·obtain rfl:t=i:=by omega
   have X:¬(t:Int) < (t:Int):=by omega
   rw[zR (by rw[A.out.1];omega)]at f;have al:=cz f;subst al;have a3:=zD (az f);have bk:=zD c;clear f c
   go_wp2_with fail
   go_ret
   exact⟨⟨_,rfl,a3.out⟩,bk.out⟩
end
def clF(a:List Nat)(t:Nat):List Nat:=Tp.firsts (a.take t)
theorem uL(a:List Nat)(t b:Nat)(c:a[t]? =W b)(d:b∈clF a t):clF a (t+1)=clF a t:=by
 unfold clF at *;rw[zG,c];show Tp.firsts (a.take t++[b])=_;rw[cD,if_pos d]
theorem mS(a:List Nat)(t b:Nat)(c:a[t]? =W b)(d:b ∉ clF a t):clF a (t+1)=clF a t++[b]:=by
 unfold clF at *;rw[zG,c];show Tp.firsts (a.take t++[b])=_;rw[cD,if_neg d]
theorem sF(a:List Nat)(t:Nat):∃s,Tp.firsts a=clF a t++s:=by
 have b:=Tp.dS (a.drop t) (clF a t);obtain⟨s,c⟩:=b;refine⟨s,?_⟩;rw[<-c];unfold clF Tp.fst';rw[Tp.dV,Tp.dV];unfold Tp.fst';rw[<-List.foldl_append,List.take_append_drop]
theorem vN(b:List Nat)(t a:Nat):a∈b.take t↔a∈clF b t:=(Tp.bH _ _).symm
theorem wU(a:List Nat)(t b:Nat)(c:a[t]? =W b)(d:b ∉ clF a t):(Tp.firsts a)[(clF a t).length]? =W b:=by
 obtain⟨s,e⟩:=sF a (t+1);rw[e,mS a t b c d,List.append_assoc,zV (η _),Nat.sub_self];rfl
theorem vO(a:List Nat)(t b:Nat)(d:a[t]? =W b)(g:b ∉ clF a t):Tp.idx a b=t:=by
 have i:=(zM.1 d).1;have f:a=a.take t++(b::a.drop (t+1)):=by
  have c:=(List.take_append_drop t a).symm;rw[aE a t b d]at c;exact c
 have c:b ∉ a.take t:=λe=>g ((vN a t b).1 e);unfold Tp.idx;rw[f,List.idxOf_append,if_neg c,List.idxOf_cons_self,List.length_take];omega
theorem sG(a:List Nat)(t:Nat)(b:a.length<=t):clF a t=Tp.firsts a:=by
 unfold clF;rw[zR b]
section
attribute [local go_sem] ak
theorem kQ(a:Nat)(w:World):Calls π 89 #[Z (W ⟨a,0,O⟩)] w λe w'=>e=ρ (φ (.func 124) #[] #[Z (W ⟨w.heap.size,0,O⟩)])/\w'=w.alloc (J #[Z (W ⟨a,0,O⟩)] 112):=by
 go_enter func89,ntmps89
 go_wp2
 go_ret
 exact⟨rfl,rfl⟩
theorem sm(args:Array Value)(w:World):(callFunc 124 args).run π w=.ok (.enter 124 args) w:=by kernel_rfl
def Bc(b:List Nat)(t:Nat)(c:Array Value)(d:NS)(_:World):Prop:=(∃a:Nat,(Tp.firsts b)[t]? =W a/\c=#[V I (a:Int),V I (Tp.idx b a:Int)])/\d=xO
theorem mM(a:List Nat)(v cc:Value)(m:NS)(M X d:Nat)(w:World)(a4:w.heap[X]? =W (.cells #[.int I 0,v,cc] 178 (0,0)))(ab:w.heap[M]? =W (.cells #[.pointer (W ⟨X,0,O⟩)] 112 (0,0)))(ba:Row w m d cc (xP a))(cf:a.length=d)(an:∀b∈a,b<=1000000)(bD:∀k,m k->k < w.heap.size)(d6:d<=1000000):
 yQ π 124 #[.pointer (W ⟨M,0,O⟩)] 3 (Tp.firsts a).length (Bc a) xO (λk=>k=M\/k=X\/m k) True (λ_ _=>True) (λ_=>True) w:=by
 intro l J dj E j A ct hF0 D dc a6 b0 av;have ca:=(A.block _ (lt_of_heap a4)).trans a4;have bk:=(A.block _ (lt_of_heap ab)).trans ab;have b1:=ba.below A;have bR:=A.size;obtain⟨B,al⟩:∃B,w.heap.size=B:=⟨_,rfl⟩;rw[al]at D bR;have bx:∀k,m k->k < B:=λk c=>al ▸ bD k c;have ch:∀k,E k->k < j.heap.size/\¬m k:=λk c=>⟨(a6 0 E j av).2 trivial k c,λe=>(hF0 k c).2 (.inr (.inr e))⟩;obtain⟨cT,cS,rfl,_⟩:=ba.form;have ck:=aL (P:=π) (K:=3) j;have z:Far xO j (j.alloc (.map #[] 0)):=(ξ _ j).alloc _;have dl:=zF (z.heap bk id) 0 rfl;have d2:=zF (z.heap ca id) 2 rfl;have b3:=b1.far z (λ_ _ _ e=>e);have cm:=D 0 E j _ av (z.mono (λ_ _ e=>e.elim));have db:=@run_makeMap π;obtain⟨c6,c3,da,b5,df,cl⟩:=zx6 b0 a6 D bx an cf;obtain⟨R,c2,c0,bw⟩:=zx4 ch b3 cm ck;clear b0 a6 D dc bx an cf ch b3 cm ck hF0 av A ct a4 ab ba bD ca bk b1 z al
 go_enter func124,ntmps124
 go_wp2_with fail
 go_step3
 go_wp2_with fail
 go_step3
 go_wp2_with fail
 generalize hmb:j.heap.size=H at bw R bR ⊢;clear db
 go_loopw [12] (λT wr=>∃(t:Nat) (f:NS),T=.int I (t:Int)/\t<=d/\xW π 3 wr H (yo (clF a t))/\Row wr m d (Y cT d cS) (xP a)/\J (clF a t).length f wr/\(∀k,f k->k≠H/\¬m k)) (λT _=>d - (Lib.intOf T).toNat)
 case atStart=>exact⟨0,E,rfl,z_ _,bw.out,c2.out,c0.out,λk c=>⟨by have:=(R.out k c).1;omega,(R.out k c).2⟩⟩
 case round=>
  obtain⟨t,f,rfl,dA,i,s,g,x⟩:=hrel;by_cases S:t < d
  ·obtain⟨b,o⟩:∃b,a[t]? =W b:=⟨_,zE (by rw[cl.out];exact S)⟩
   have an:=df.out b (zL o);obtain⟨d1,ds,d4,c4,_,d3,d0⟩:=s.nat o;injection c4 with e21 e22 e23;clear e22;subst e21 e23;have dp:(t:Int) < (d:Int):=by omega
   have dW:(0:Int)<=(t:Int):=by omega
   by_cases q:b∈clF a t
   ·have ao:=i.look_in bh underlying196 (jA _) (.int I (b:Int)) (bW b (by omega)) false (.bool true) (List.mem_map.2 ⟨b,q,rfl⟩) (λp a9 _=>by obtain⟨b9,_,rfl⟩:=List.mem_map.1 a9;rfl)
    simp only[Bool.false_eq_true,if_false]at ao;have r:=uL a t b o q;rw[<-r]at i g;obtain⟨C,L,dg,u⟩:=zx4 i s g x;clear i s g x o q r
    go_wp2_with fail
    go_roundw
    case rel=>exact⟨t+1,f,by go_num,S,C.out,L.out,dg.out,u.out⟩
    case measure=>simp[Lib.intOf];omega
   ·have a2:∀p∈yo (clF a t),p.1≠.int I (b:Int):=λp a9 e=>by
     obtain⟨b9,G,c9⟩:=eZ _ _ a9;rw[c9]at e;simp at e
     have:b9=b:=by omega
     exact q (this ▸ G)
    have ao:=i.look_out bh underlying196 (jA _) (.int I (b:Int)) (bW b (by omega)) false a2;simp only[Bool.false_eq_true,if_false]at ao;obtain⟨ad,dm,bn,ac⟩:=i.put bh underlying196 (.int I (b:Int)) (.bool true) (bW b (by omega)) a2;have r:=mS a t b o q;have bs:xW π 3 ad H (yo (clF a (t+1))):=by
     have:yo (clF a (t+1))=yo (clF a t)++[(.int I (b:Int),.bool true)]:=by rw[r];simp[yo]
     rw[this];exact bn
    have a1:=wU a t b o q;have be:=vO a t b o q;have co:(clF a (t+1)).length=(clF a t).length+1:=by rw[r];simp
    have di:(clF a t).length < (Tp.firsts a).length:=(zM.1 a1).1;have cb:=da.out _ f wr ad g (ac.mono (λk _ e=>⟨λc=>(x k c).1 e,.inr (by omega)⟩));have b2:=s.far ac (λk y _ e=>by have:=b5.out k y;omega);have c1:∀k,f k->k < wr.heap.size:=λk c=>(c3.out _ f wr g).2 trivial k c;have dJ:=ac.size;have dn:=i.lt;obtain⟨C,L,u⟩:=zx3 bs b2 x;clear i s g x o q r bn bs b2 a2
    go_upto_region 6 with (fail)
    refine(wpIn_wide (n:=4)).1 ?_;obtain⟨d5,dC,assign,body,G,bm⟩:=c6.out _ di f xO #[.int I (b:Int),.int I (t:Int)] ad cb ⟨⟨b,a1,by rw[be]⟩,rfl⟩ (λk c=>c.elim);have a5:=zD bm;clear bm a1 be
    gi_wp2
    refine(a5.out).mono ?_;rintro e dv ⟨a3,⟨F,N⟩,(⟨rfl,a0⟩|⟨rfl,bq⟩)⟩
    ·have b6:=C.out.far F (λe=>(u.out _ e).1 rfl)
     have b4:=L.out.far F (λk y _ e=>(u.out k e).2 y);have b8:∀k,a3 k->k≠H/\¬m k:=by
      intro k c;rcases N k c with c|c|c
      ·exact u.out k c
      ·exact c.elim
      ·exact⟨by omega,λy=>by have:=b5.out k y;omega⟩
     rw[<-co]at a0;have bb:=zD (θ b6 (θ b4 (θ a0 b8)));clear b6 b4 a0 b8 F N a5 G cb c1 C L u
     gi_wp2
     go_wp2_with fail
     go_roundw
     case rel=>exact⟨t+1,a3,by go_num,S,bb.out⟩
     case measure=>simp[Lib.intOf];omega
    ·have bb:=zD bq
     clear bq F N a5 G
     gi_wp2
     go_wp2_with fail
     try rw[Exit.noGoto_normal]
     go_end0
     exact⟨⟨_,rfl⟩,.inr ⟨a3,bb.out⟩⟩
  ·obtain rfl:t=d:=by omega
   have dr:¬(t:Int) < (t:Int):=by omega
   rw[sG a t (by rw[cl.out];omega)]at g;have cv:=zD g;clear i s g x
   go_wp2_with fail
   try rw[Exit.noGoto_normal]
   go_end0
   exact⟨⟨_,rfl⟩,.inl ⟨f,cv.out,trivial⟩⟩
end
theorem sP{d:World}{b:Nat}{v:List Tp.Nd}{t:Nat}{j:Option Addr}{g l gg cap:Nat}{x:Tp.Nd}{kv u:Value}{c i:World}(a:TyI d b v t j g l c)(ad:b < d.heap.size)(T:v[t]? =W x)(m:NS)(s:∀k,m k->d.heap.size<=k/\k < c.heap.size/\(Value.slice j g l).ownBlock≠W k)
(f:Row c m x.keys.length kv (xV x.keys))(F:Row c m x.kids.length u (xP x.kids))(n:Far (λk=>(Value.slice j g l).ownBlock=W k) c i)(H:(Value.slice j g l).ownBlock=W gg\/c.heap.size<=gg)
(w:List Value)(r:NS)(S:xX c r (v.take t) w)(y:∀k,r k->d.heap.size<=k/\k < c.heap.size/\(Value.slice j g l).ownBlock≠W k)
(C:i.ownsRow d.heap.size 185 6 (Y (W ⟨gg,0,O⟩) (t+1) cap) (t+1) (w++[V I x.k,V I x.x.k,V I x.x.n,xR x.x.s,kv,u])):
 (i.setCell ⟨b,1,O⟩ (Y (W ⟨gg,0,O⟩) (t+1) cap)).heap[b]? =W (J #[V I 0,Y (W ⟨gg,0,O⟩) (t+1) cap] 54 (0,0))/\(i.setCell ⟨b,1,O⟩ (Y (W ⟨gg,0,O⟩) (t+1) cap)).ownsRow d.heap.size 185 6 (Y (W ⟨gg,0,O⟩) (t+1) cap) (t+1) (w++[V I x.k,V I x.x.k,V I x.x.n,xR x.x.s,kv,u])/\xX (i.setCell ⟨b,1,O⟩ (Y (W ⟨gg,0,O⟩) (t+1) cap)) (λk=>r k\/m k) (v.take (t+1)) (w++[V I x.k,V I x.x.k,V I x.x.n,xR x.x.s,kv,u])/\(∀k,(r k\/m k)->d.heap.size<=k/\k < (i.setCell ⟨b,1,O⟩ (Y (W ⟨gg,0,O⟩) (t+1) cap)).heap.size/\(Value.slice (W ⟨gg,0,O⟩) (t+1) cap).ownBlock≠W k)/\Far (·=b) d (i.setCell ⟨b,1,O⟩ (Y (W ⟨gg,0,O⟩) (t+1) cap)):=by
 have X:¬(Value.slice j g l).ownBlock=W b:=λe=>by
  obtain⟨_,⟨R,N,z,_,_⟩,_⟩:=a;have:=(z.lt b e).1;omega
 have L:gg≠b:=by
  have:=(C.lt gg rfl).1;omega
 have M:=n.heap a.hd X;have o:Far (·=b) i (i.setCell ⟨b,1,O⟩ (Y (W ⟨gg,0,O⟩) (t+1) cap)):=Far.setCell (D:=(·=b)) (ξ _ _) (p:=⟨b,1,O⟩) (λ_=>rfl) _;have G:∀k,d.heap.size<=k/\k < c.heap.size/\(Value.slice j g l).ownBlock≠W k->(Value.slice (W ⟨gg,0,O⟩) (t+1) cap).ownBlock≠W k:=λk f e=>by
  simp[Value.ownBlock]at e
  subst e;rcases H with a|a
  ·exact f.2.2 a
  ·omega
 have q:∀(K:NS),(∀k,K k->d.heap.size<=k/\k < c.heap.size/\(Value.slice j g l).ownBlock≠W k)->(∀k,K k->k < c.heap.size->¬(λk=>(Value.slice j g l).ownBlock=W k) k)/\(∀k,K k->k < i.heap.size->¬k=b):=λK E=>⟨λk f _ e=>(E k f).2.2 e,λk f _ e=>by have:=(E k f).1;omega⟩;refine⟨ai M 1 _,am C o (λk e a=>by injection e with e;exact L (e.trans a)),?_,λk f=>?_,(a.far.step n (λk f e=>?_)).step o (λk _ e=>e)⟩
 ·rw[zG,T]
  have ab:=xX.far o (q r y).2 _ _ (xX.far n (q r y).1 _ _ S);have ac:=(f.far n (q m s).1).far o (q m s).2;have P:=(F.far n (q m s).1).far o (q m s).2;exact xX.snoc (ac.mono (λ_ a _=>.inr a)) (P.mono (λ_ a _=>.inr a)) _ _ (xX.mono (λ_ a _=>.inl a) _ _ ab)
 ·have A:d.heap.size<=k/\k < c.heap.size/\(Value.slice j g l).ownBlock≠W k:=by
   rcases f with a|a
   ·exact y k a
   ·exact s k a
  exact⟨A.1,zK A.2.1 (Nat.le_trans n.size o.size),G k A⟩
 ·obtain⟨_,⟨R,N,z,_,_⟩,_⟩:=a
  have:=(z.lt k e).1;omega
theorem iN{w:World}{k:NS}{v:Value}{b:List Tp.Tk}(s:Row w k b.length v (xZ b)):∃a g o f,v=Y a b.length f/\b.length<=maxLen/\∀i t,b[i]? =W t->a=W ⟨g,o,O⟩/\g < w.heap.size/\w.cell? ⟨g,o+i * 3,O⟩=W (V I t.k)/\w.cell? ⟨g,o+i * 3+1,O⟩=W (xR t.s)/\w.cell? ⟨g,o+i * 3+2,O⟩=W (V I (t.a:Int)):=by
 obtain⟨a,g,o,f,m,j,p,c⟩:=s.at
 refine⟨a,g,o,f,m,j,λi t l=>?_⟩;obtain⟨d,u,n⟩:=bE b i t l;obtain⟨q,_,r⟩:=p (by intro e;rw[e]at d;simp at d);exact⟨q,r,c _ _ d,c _ _ u,c _ _ n⟩
theorem mF(a:List Tp.Tk)(i:Nat)(b:List Int)(j:Nat)(k:Int)(c:b[j]? =W k):xY a i (b.take (j+1))=(xY a i (b.take j)||xY a i [k]):=by
 unfold xY;rw[zG,c];cases a[i]? with
 |none=>rfl
 |some t=>simp
theorem mG(b:List Tp.Tk)(i:Nat)(c:List Int)(j:Nat)(a:xY b i (c.take j)=true):xY b i c=true:=by
 unfold xY at a ⊢;split
 ·rename_i t ht
  rw[ht]at a;simp only at a;obtain⟨x,e,d⟩:=List.any_eq_true.1 a;exact List.any_eq_true.2 ⟨x,List.mem_of_mem_take e,d⟩
 ·rename_i ht
  rw[ht]at a;cases a
theorem vM(r u:Int)(v:Value)(c:List Tp.Tk)(ab:NS)(a:Nat)(b:List Int)(ao:b.length<=10)(be:a<=1000)(n:Nat)(w:World)(R:Row w ab c.length v (xZ c))(X:∀j,j < b.length->w.cell? ⟨n,j,O⟩=some (V I b[j]!)):
 Calls π 202 #[γ #[V I r,V I u,v],V I (a:Int),Y (some ⟨n,0,O⟩) b.length b.length] w λe w'=>e=ρ (β (xY c a b))/\Below w.heap.size w w':=by
 obtain⟨z,g,o,A,rfl,N,S⟩:=iN R;have a0:c.length<=9223372036854775807:=N;generalize hvn:c.length=f at a0 ⊢;have T:=λW=>wG (a:Int) (f:Int) W;obtain⟨al,a1⟩:=zx2 S X;generalize hKN:b.length=i at ao ⊢;have L:=(ζ w.heap.size w).alloc (η _) (J #[V I r,V I u,Y z f A] 220);have H:=af w (J #[V I r,V I u,Y z f A] 220);obtain⟨av,ad⟩:=zx2 L H;clear S X L H R N;have a4:xY c a (b.take i)=xY c a b:=by rw[<-hKN,List.take_length]
 go_enter func202,ntmps202
 go_wp2_with fail
 go_loopw [11] (λC wr=>∃j:Nat,j<=i/\C=V I (j:Int)/\xY c a (b.take j)=false/\Below w.heap.size w wr/\wr.heap[w.heap.size]? =some (J #[V I r,V I u,Y z f A] 220 (0,0))) (λC _=>i - (Lib.intOf C).toNat)
 case atStart=>exact⟨0,z_ _,rfl,by rw[List.take_zero];unfold xY;split<;>rfl,av.out,ad.out⟩
 case round=>
  obtain⟨j,bq,rfl,p,m,q⟩:=hrel;have bm:=zF q 2 rfl;by_cases F:j < i
  ·obtain⟨k,M⟩:∃k,b[j]? =some k:=⟨_,zE (by rw[hKN];exact F)⟩
   have s:=a1.out j (by rw[hKN];exact F);rw[show b[j]! =k by rw[List.getElem!_eq_getElem?_getD,M];rfl]at s;have ba:wr.cell? ⟨n,j,O⟩=some (V I k):=(World.cell?_of_block (w:=w) (m.block n (World.block_lt_of_cell? w ⟨n,j,O⟩ s))).trans s;have d:=mF c a b j k M;rw[p,Bool.false_or]at d;have bn:(0:Int)<=(j:Int):=by omega
   have bb:(j:Int) < (i:Int):=by omega
   obtain⟨l,P⟩:=zx2 m q;clear m q s p;by_cases a2:a < f
   ·obtain⟨t,D⟩:∃t,c[a]? =some t:=⟨_,zE (by rw[hvn];exact a2)⟩
    obtain⟨rfl,an,G,_⟩:=al.out a t D;have a9:wr.cell? ⟨g,o+a * 3,O⟩=some (V I t.k):=(World.cell?_of_block (w:=w) (l.out.block g an)).trans G;rw[decide_eq_true (by omega:(a:Int) < (f:Int))]at T;have bk:(0:Int)<=(a:Int):=by omega
    have a6:(a:Int) < (f:Int):=by omega
    have x:xY c a [k]=(t.k==k):=by unfold xY;rw[D];simp
    rw[x]at d;generalize t.k=K at *;clear G;by_cases E:K=k
    ·subst E
     have a5:=mG c a b (j+1) (d.trans (by simp));clear d
     go_wp2_with fail
     go_ret
     exact⟨by first|rfl|(rw[a5];rfl),l.out⟩
    ·have a3:(K==k)=false:=by simpa using E
     rw[a3]at d;have y:=zD d;clear d
     go_wp2_with fail
     go_roundw
     case rel=>exact⟨j+1,by omega,by go_num,y.out,l.out,P.out⟩
     case measure=>simp[Lib.intOf];omega
   ·rw[decide_eq_false (by omega:¬(a:Int) < (f:Int))]at T
    have x:xY c a [k]=false:=by unfold xY;rw[List.getElem?_eq_none (by omega)]
    rw[x]at d;have y:=zD d;clear d
    go_wp2_with fail
    go_roundw
    case rel=>exact⟨j+1,by omega,by go_num,y.out,l.out,P.out⟩
    case measure=>simp[Lib.intOf];omega
  ·obtain rfl:j=i:=by omega
   rw[a4]at p;have l:=zD m;clear m q
   go_wp2_with fail
   go_ret
   exact⟨by first|rfl|(rw[p];rfl),l.out⟩
def zc(l:List Tp.Tk):Value:=if Tp.isDash l then .iface 310 (γ #[])else if Tp.isKey l then .iface 311 (γ #[])else .iface 370 (γ #[])
theorem bl(l:List Tp.Tk):Tp.isDash l=xY l 0 [5]:=by
 cases l with
 |nil=>rfl
 |cons t u=>simp[Tp.isDash,xY]
theorem bJ(l:List Tp.Tk):Tp.isKey l=(xY l 0 [1,2]&&xY l 1 [6]):=by
 match l with
 | []=>rfl
 | [t]=>simp[Tp.isKey,xY]
 |t::u::r=>simp[Tp.isKey,xY]
theorem kI(l:List Tp.Tk)(a:Tp.isName1 l=false):xY l 0 [3]=false\/l.length≠1:=by
 match l with
 | []=>exact .inl rfl
 | [t]=>left;simpa [Tp.isName1,xY]using a
 |t::u::r=>right;simp
theorem cr(c f:Int)(v:Value)(l:List Tp.Tk)(a6:NS)(w:World)(a1:Row w a6 l.length v (xZ l))(bn:Tp.isName1 l=false):
 Calls π 154 #[γ #[V I c,V I f,v]] w λe w'=>e=ρ (zc l)/\Below w.heap.size w w':=by
 obtain⟨p,r,rfl⟩:∃a bq,v=Y a l.length bq:=by obtain⟨a,_,_,bq,d,_⟩:=a1;exact⟨_,_,d⟩
 obtain⟨q,be⟩:∃n,l.length=n:=⟨_,rfl⟩;have N:=af w (J #[V I c,V I f,Y p l.length r] 220);have y:Far xO w (w.alloc (J #[V I c,V I f,Y p l.length r] 220)):=(ξ _ w).alloc _;have a4:(w.alloc (J #[V I c,V I f,Y p l.length r] 220)).heap.size=w.heap.size+1:=by simp
 have a5:∀(P:Nat) (z:List Int) (X:Nat) (i:World),z.length<=10->P<=1000->Far xO (w.alloc (J #[V I c,V I f,Y p l.length r] 220)) i->(∀j,j < z.length->i.cell? ⟨X,j,O⟩=W (V I z[j]!))->Calls π 202 #[γ #[V I c,V I f,Y p l.length r],V I (P:Int),Y (W ⟨X,0,O⟩) z.length z.length] i λe w'=>e=ρ (β (xY l P z))/\Far xO (w.alloc (J #[V I c,V I f,Y p l.length r] 220)) w':=λP z X i bD bs E bR=>(vM c f _ l a6 P z bD bs X i (a1.far (y.trans E) (λ_ _ _ e=>e)) bR).mono (λe w' d=>⟨d.1,E.trans (Far.of_below d.2 _)⟩);have L:=kI l bn;obtain⟨ba,a2⟩:∃ba,zc l=ba:=⟨_,rfl⟩;have D:=zD a2;rw[a2];clear a2;rw[be]at a5 L N y a4 ⊢;have bm:∀i:World,Far xO (w.alloc (J #[V I c,V I f,Y p q r] 220)) i->i.cell? ⟨w.heap.size,0,O⟩=W (V I c)/\i.cell? ⟨w.heap.size,1,O⟩=W (V I f)/\i.cell? ⟨w.heap.size,2,O⟩=W (Y p q r):=λi E=>⟨ae (E.heap N (λe=>e)) 0,ae (E.heap N (λe=>e)) 1,ae (E.heap N (λe=>e)) 2⟩;have T:=ξ xO (w.alloc (J #[V I c,V I f,Y p q r] 220));obtain⟨G,b⟩:=zx2 a5 bm;clear a5 bm a1 bn N be
 go_enter func154,ntmps154
 go_upto_region 1 with (fail)
 generalize hU:w.alloc (J #[V I c,V I f,Y p q r] 220)=U at G b y a4 T ⊢;clear hU a4;have a3:=G.out 0 [5] U.heap.size (U.alloc (J #[V I 5] 3)) (by simp) (by omega) (T.alloc _) (λj x=>by
  match j,x with
  |0,_=>exact aY rfl rfl
  )
 simp only[zO,List.length_nil,Nat.zero_add,Nat.reduceAdd]at a3;have bk:=zD a3;clear a3;obtain⟨m,o,k⟩:=b.out U T;obtain⟨t,s,u⟩:=b.out _ (T.alloc (J #[V I 5] 3))
 go_wp2_with fail
 refine bk.out.mono ?_;rintro e ac ⟨rfl,R⟩;clear bk m o k t s u;cases b0:xY l 0 [5] with
 |true=>
  have g:=(y.trans R).to_below (η _) (λ_ _ e=>e)
  go_wp2_with fail
  go_ret
  exact⟨by rw[<-D.out];unfold zc;simp[bl,bJ, *],g⟩
 |false=>
  have ao:=G.out 0 [1,2] ac.heap.size (ac.alloc (J #[V I 1,V I 2] 3)) (by simp) (by omega) (R.alloc _) (λj x=>by
   match j,x with
   |0,_=>exact aY rfl rfl
   |1,_=>exact aY rfl rfl
   )
  simp only[zO,List.length_nil,Nat.zero_add,Nat.reduceAdd]at ao;have bb:=zD ao;clear ao;obtain⟨m,o,k⟩:=b.out ac R;obtain⟨t,s,u⟩:=b.out _ (R.alloc (J #[V I 1,V I 2] 3))
  go_wp2_with fail
  refine bb.out.mono ?_;rintro e H ⟨rfl,F⟩;clear bb m o k t s u;cases b1:xY l 0 [1,2] with
  |true=>
   have al:=G.out 1 [6] H.heap.size (H.alloc (J #[V I 6] 3)) (by simp) (by omega) (F.alloc _) (λj x=>by
    match j,x with
    |0,_=>exact aY rfl rfl
    )
   simp only[zO,List.length_nil,Nat.zero_add,Nat.reduceAdd]at al;have a9:=zD al;clear al;obtain⟨m,o,k⟩:=b.out H F;obtain⟨t,s,u⟩:=b.out _ (F.alloc (J #[V I 6] 3))
   go_wp2_with fail
   refine a9.out.mono ?_;rintro e an ⟨rfl,S⟩;clear a9 m o k t s u;cases b2:xY l 1 [6] with
   |true=>
    have g:=(y.trans S).to_below (η _) (λ_ _ e=>e)
    go_wp2_with fail
    go_ret
    exact⟨by rw[<-D.out];unfold zc;simp[bl,bJ, *],g⟩
   |false=>
    have A:=G.out 0 [3] an.heap.size (an.alloc (J #[V I 3] 3)) (by simp) (by omega) (S.alloc _) (λj x=>by
     match j,x with
     |0,_=>exact aY rfl rfl
     )
    simp only[zO,List.length_nil,Nat.zero_add,Nat.reduceAdd]at A;have M:=zD A;clear A;obtain⟨m,o,k⟩:=b.out an S;obtain⟨t,s,u⟩:=b.out _ (S.alloc (J #[V I 3] 3))
    go_wp2_with fail
    refine M.out.mono ?_;rintro e ab ⟨rfl,C⟩;clear M m o k t s u;obtain⟨m,o,k⟩:=b.out ab C;cases av:xY l 0 [3] with
    |true=>
     rw[av]at L;have bx:¬q=1:=by rcases L with d|d;cases d;exact d
     have a0:¬(q:Int)=1:=by omega
     have bw:((q:Int)==1)=false:=by simpa using a0
     have g:=(y.trans C).to_below (η _) (λ_ _ e=>e)
     go_wp2_with fail
     go_ret
     exact⟨by rw[<-D.out];unfold zc;simp[bl,bJ, *],g⟩
    |false=>
     have g:=(y.trans C).to_below (η _) (λ_ _ e=>e)
     go_wp2_with fail
     go_ret
     exact⟨by rw[<-D.out];unfold zc;simp[bl,bJ, *],g⟩
  |false=>
   have A:=G.out 0 [3] H.heap.size (H.alloc (J #[V I 3] 3)) (by simp) (by omega) (F.alloc _) (λj x=>by
    match j,x with
    |0,_=>exact aY rfl rfl
    )
   simp only[zO,List.length_nil,Nat.zero_add,Nat.reduceAdd]at A;have M:=zD A;clear A;obtain⟨m,o,k⟩:=b.out H F;obtain⟨t,s,u⟩:=b.out _ (F.alloc (J #[V I 3] 3))
   go_wp2_with fail
   refine M.out.mono ?_;rintro e ab ⟨rfl,C⟩;clear M m o k t s u;obtain⟨m,o,k⟩:=b.out ab C;cases av:xY l 0 [3] with
   |true=>
    rw[av]at L;have bx:¬q=1:=by rcases L with d|d;cases d;exact d
    have a0:¬(q:Int)=1:=by omega
    have bw:((q:Int)==1)=false:=by simpa using a0
    have g:=(y.trans C).to_below (η _) (λ_ _ e=>e)
    go_wp2_with fail
    go_ret
    exact⟨by rw[<-D.out];unfold zc;simp[bl,bJ, *],g⟩
   |false=>
    have g:=(y.trans C).to_below (η _) (λ_ _ e=>e)
    go_wp2_with fail
    go_ret
    exact⟨by rw[<-D.out];unfold zc;simp[bl,bJ, *],g⟩
theorem n6{w:World}{i:NS}{v:Value}{a:List Tp.Tk}(c:Row w i a.length v (xZ a)):∃g,TkG w g v a:=by
 obtain⟨b,g,o,cap,f,d,_,e⟩:=c;exact⟨g,b,o,cap,f,d.1,e⟩
theorem iF(bq:Value)(b5:∃a,bq=Z a)(ad a3:Int)(S:Option Addr)(ab a2:Nat)(v:Value)(f:List Tp.Tk)(b6:NS)(d:Nat)(t:Tp.Tree)(w:World)(a0:Row w b6 f.length v (xZ f))(bw:∀t∈f,zf t)(b8:f.length<=100000)(a5:Glob w)(dm:d<=24)(c:Tp.bval f d=W t):
 Calls π 158 #[bq,γ #[V I ad,V I a3,Y S ab a2],v,V I (d:Int)] w λe w'=>(∃q:List Value,e=ρ (.tuple #[γ q.toArray,.nilIface])/\xS w' (New w) t q)/\Below w.heap.size w w':=by
 obtain⟨c5,rfl⟩:=b5;obtain⟨c9,dp,di,rfl⟩:∃a n bb,v=Y a n bb:=by obtain⟨a,_,_,bb,h,_⟩:=a0;exact⟨_,_,_,h⟩
 unfold Tp.bval at c;cases u:Tp.fval (f.length+1) 1 f with
 |none=>rw[u]at c;cases c
 |some y=>
 obtain⟨l,rest⟩:=y;rw[u]at c
 match rest,u,c with
 | [],u,c=>
 simp only at c;split at c
 case isFalse=>cases c
 rename_i hdp
 injection c with c;subst c;have N:Far xO w ((w.alloc (J #[V I ad,V I a3,Y S ab a2] 220)).alloc (J #[V I 0,U ⟨#[]⟩,V I 0,V I 0,U ⟨#[]⟩,Y O 0 0,Y O 0 0] 78)):=((ξ _ w).alloc _).alloc _;have b0:((w.alloc (J #[V I ad,V I a3,Y S ab a2] 220)).alloc (J #[V I 0,U ⟨#[]⟩,V I 0,V I 0,U ⟨#[]⟩,Y O 0 0,Y O 0 0] 78)).heap[w.heap.size+1]? =W (J #[V I 0,U ⟨#[]⟩,V I 0,V I 0,U ⟨#[]⟩,Y O 0 0,Y O 0 0] 78 (0,0)):=ah _ _ _ (by simp);obtain⟨g,bn⟩:=n6 a0;have bk:=pH _ g f (f.length+1) l _ (bn.far N (λe=>e)) bw b8 (a5.far N (λ_ _ e=>e)) u;have co:=λp=>uI (d:Int) 24 p;rw[decide_eq_false (by omega:¬(24:Int) < (d:Int))]at co;have bx:Tp.depth l<=1000:=by omega
 have an:=λq p (H:xS p (λk=>w.heap.size+2<=k) l q)=>kY (Tp.depth l) l q _ p (η _) bx H;obtain⟨D,R⟩:∃D,Tp.depth l=D:=⟨_,rfl⟩;rw[R]at hdp bx;simp only[R]at an;have cS:=λp=>uI ((D:Int)+(d:Int) - 1) 24 p;rw[decide_eq_false (by omega:¬(24:Int) < (D:Int)+(d:Int) - 1)]at cS;have dn:IntKind.i64.wrap ((D:Int)+(d:Int))=(D:Int)+(d:Int):=zU _ (by omega);have dA:IntKind.i64.wrap ((D:Int)+(d:Int) - 1)=(D:Int)+(d:Int) - 1:=zU _ (by omega);obtain⟨b2,ba,T,b1⟩:=zx4 bk N b0 an;clear bk N b0 an a0 bw a5 u bn R
 go_enter func158,ntmps158
 go_wp2_with fail
 refine b2.out.mono ?_;rintro e r ⟨⟨q,rfl,H⟩,L⟩;obtain⟨k,E,G,m,s,x,z,F,C,A,o,rfl⟩:=H.form;have a9:=aa (J #[V I k,U E,V I G,V I m,U s,Y x z F,Y C A o] 78) ((L.block _ (lt_of_heap T.out)).trans T.out);have a6:=af r (J #[V I k,U E,V I G,V I m,U s,Y x z F,Y C A o] 78);have P:=(ξ xO r).alloc (J #[V I k,U E,V I G,V I m,U s,Y x z F,Y C A o] 78);have X:xS (r.alloc (J #[V I k,U E,V I G,V I m,U s,Y x z F,Y C A o] 78)) (λk=>w.heap.size+2<=k) l _:=xS.mono (λk ac _=>by have h:_<=k:=ac;simpa using h) _ _ (xS.far P (λ_ _ _ e=>e) _ _ H);have b4:Below w.heap.size w (r.alloc (J #[V I k,U E,V I G,V I m,U s,Y x z F,Y C A o] 78)):=((ba.out.to_below (η _) (λ_ _ e=>e)).trans (L.mono (by simp;omega))).trans (P.to_below (by have:=L.size;simp at this;omega) (λ_ _ e=>e.elim));have be:=b1.out _ _ X;have db:w.heap.size+1 < r.heap.size:=by have:=L.size;simp at this;omega
 obtain⟨df,cc⟩:∃cf,r.heap.size=cf:=⟨_,rfl⟩;obtain⟨ao,bs,av,b3,a1⟩:=zx5 a9 X b4 be a6;clear H L a9 P X b4 be a6 b2 ba T b1
 go_wp2_with fail
 refine b3.out.mono ?_;rintro e w5 ⟨rfl,M⟩;have b:=(M.block _ (lt_of_heap ao.out)).trans ao.out;have j:=(M.block _ (lt_of_heap a1.out)).trans a1.out;have bR:=xS.far (Far.of_below M xO) (λ_ _ _ e=>e) _ _ bs.out;have bD:=av.out.trans (M.mono av.out.size);have c3:=zF b 0 rfl;have dl:=ag b 0;have ca:=zF j 0 rfl;have da:=zF b 1 rfl;have c6:=ag b 1;have cv:=zF j 1 rfl;have c0:=zF b 2 rfl;have dC:=ag b 2;have b9:=zF j 2 rfl;have c4:=zF b 3 rfl;have c1:=ag b 3;have cm:=zF j 3 rfl;have dc:=zF b 4 rfl;have dv:=ag b 4;have cb:=zF j 4 rfl;have dg:=zF b 5 rfl;have dr:=ag b 5;have cl:=zF j 5 rfl;have c2:=zF b 6 rfl;have ds:=ag b 6;have cT:=zF j 6 rfl;rw[cc]at ca cv b9 cm cb cl cT;obtain⟨ch,ck,bm⟩:=zx3 b bR bD;clear b j bR bD M ao bs av b3 a1
 go_wp2_with fail
 obtain⟨ct,a4⟩:=aG ch.out (V I k) (U E) (V I G) (V I m) (U s) (Y x z F) (Y C A o);exact bodyPost_ret (aO results158 _ _ _ _ ct rfl rfl) rfl ⟨⟨_,rfl,xS.base (xS.far a4 (λk (ac:w.heap.size+2<=k) _ e=>by omega) _ _ ck.out) (λk ac=>by omega)⟩,bm.out.trans (a4.to_below bm.out.size (λi dj e=>by omega))⟩
theorem wj(a:World):(Instr.typeAssert (.iface 370 (γ #[])) 308 310 true).run π a=.ok (.tuple #[γ #[],β false]) a:=by kernel_rfl
theorem wi(a:World):(Instr.typeAssert (.iface 370 (γ #[])) 308 311 true).run π a=.ok (.tuple #[γ #[],β false]) a:=by kernel_rfl
theorem wg(a:World):(Instr.typeAssert (.iface 370 (γ #[])) 308 313 true).run π a=.ok (.tuple #[γ #[U ⟨#[]⟩],β false]) a:=by kernel_rfl
theorem vP(l:List Tp.Tk)(a:Tp.isPl l=true):zc l=.iface 370 (γ #[])/\Tp.isName1 l=false:=by
 unfold Tp.isPl at a;simp only[zQ,Bool.not_eq_true']at a;unfold zc;rw[a.1.1.1,a.1.1.2];exact⟨rfl,a.1.2⟩
theorem ko(c l u:Nat)(d:NS)(e:Tp.En)(s:List Tp.En)(m:Int)(j:Nat)(t:Tp.Tree)(w:World)(i:yp w c l u d (e::s))(c1:Tp.isPl e.l=true)(cv:∀t∈e.l,zf t)(cb:e.l.length<=100000)(ao:Glob w)(ef:10<=c)(df:j<=24)(co:Tp.bval e.l j=some t):
 Calls π 107 #[Z (some ⟨c,0,O⟩),V I m,V I (j:Int)] w λx w'=>(∃z:List Value,x=ρ (.tuple #[γ z.toArray,.nilIface])/\xS w' (New w) t z)/\yp w' c l (u+3) d s/\Far (·=c) w w':=by
 have y:Far xO w (w.alloc (J #[V I 0,U ⟨#[]⟩,V I 0,V I 0,U ⟨#[]⟩,Y O 0 0,Y O 0 0] 78)):=(ξ _ w).alloc _;have bx:=af w (J #[V I 0,U ⟨#[]⟩,V I 0,V I 0,U ⟨#[]⟩,Y O 0 0,Y O 0 0] 78);have F:=i.far y (λe=>e) (λe=>e) (λ_ _ _ e=>e);obtain⟨v,R,a6⟩:=cM c l u d e s _ F;obtain⟨A,D,X,rfl⟩:∃a n a1,v=Y a n a1:=by obtain⟨a,_,_,a1,i,_⟩:=R;exact⟨_,_,_,i⟩
 obtain⟨be,b8⟩:=vP e.l c1;have c2:=λW=>uI (j:Int) 24 W;rw[decide_eq_false (by omega:¬(24:Int) < (j:Int))]at c2;have bw:=ao.far y (λ_ _ e=>e);have dr:=wj;have d0:=wi;have d2:=wg;obtain⟨bb,db,cf,cc,dl,b3⟩:=zx6 a6 F y bx bw R;have b0:=zD be;have dA:=i.lt;have dc:=zD i.tgl;clear a6 F y bx bw R be i ao
 go_enter func107,ntmps107
 go_wp2_with fail
 refine bb.out.mono ?_;rintro x ab ⟨rfl,H⟩;have L:Far xO (w.alloc (J #[V I 0,U ⟨#[]⟩,V I 0,V I 0,U ⟨#[]⟩,Y O 0 0,Y O 0 0] 78)) (ab.alloc (J #[V I e.no,V I e.col,Y A D X] 220)):=(Far.of_below H _).alloc _;have ac:=af ab (J #[V I e.no,V I e.col,Y A D X] 220);have bm:=b3.out.far L (λ_ _ _ e=>e);have N:=cr e.no e.col _ e.l d _ bm b8;rw[b0.out]at N;have dn:w.heap.size < ab.heap.size:=by have:=H.size;simp at this;omega
 obtain⟨a9,b2,T⟩:=zx3 N L ac;clear H L ac bm N bb b0
 go_wp2_with fail
 refine a9.out.mono ?_;rintro x ch ⟨rfl,M⟩;have E:=b2.out.below M;have a4:=(M.block _ (lt_of_heap T.out)).trans T.out;have al:=db.out.far E (λe=>e) (λe=>e) (λ_ _ _ e=>e);have bD:=ni c l u d e s ch al;obtain⟨ad,p,ba⟩:=zx3 bD E a4;clear M E a4 al bD a9 b2 T
 go_wp2_with fail
 refine ad.out.mono ?_;rintro x o ⟨⟨d6,rfl⟩,S,g⟩;have av:=p.out.heap cc.out (λe=>e);have a3:=g.heap av (by omega);have q:=g.heap ba.out (by omega);have a0:Far (·=c) w o:=((cf.out.trans p.out).mono (D':=(·=c)) (λ_ _ e=>e.elim)).trans g;have a5:=(b3.out.far p.out (λ_ _ _ e=>e)).far g (λk f _ e=>S.tgr (e ▸ f));have bk:=dl.out.far ((p.out.mono (D':=(·=c)) (λ_ _ e=>e.elim)).trans g) (λk f e=>by omega);have a2:=iF (Z (some ⟨c,0,O⟩)) ⟨_,rfl⟩ e.no e.col A D X _ e.l d j t o a5 cv cb bk df co;have da:=zF q 0 rfl;have ck:=zF q 1 rfl;have ca:=zF q 2 rfl;obtain⟨b1,P,bn,bs⟩:=zx4 a2 a3 a0 S;clear S g av a3 q a0 a5 bk a2 ad p ba
 go_wp2_with fail
 refine b1.out.mono ?_;rintro x w5 ⟨⟨z,rfl,G⟩,bR⟩;obtain⟨k,c9,dj,b4,cl,cS,cT,dg,c6,c0,b6,rfl⟩:=G.form;have r:=Far.of_below bR xO;have b:=r.heap P.out (λe=>e);have an:=bs.out.far r (λe=>e) (λe=>e) (λ_ _ _ e=>e);have bq:=bn.out.trans (r.mono (D':=(·=c)) (λ_ _ e=>e.elim));have d3:w.heap.size < o.heap.size:=lt_of_heap P.out;have dv:=zF b 0 rfl;have d5:=ag b 0;have dW:=zF b 1 rfl;have dJ:=ag b 1;have dm:=zF b 2 rfl;have ek:=ag b 2;have dC:=zF b 3 rfl;have dp:=ag b 3;have d1:=zF b 4 rfl;have ej:=ag b 4;have d4:=zF b 5 rfl;have eg:=ag b 5;have ds:=zF b 6 rfl;have ei:=ag b 6;obtain⟨cm,ct,c3,c5⟩:=zx4 b G an bq;have di:l≠w.heap.size:=by omega
 have b5:∀k,d k->k < w5.heap.size->¬k=w.heap.size:=λk f _ e=>by have:=dc.out k f;omega
 clear b G an bq r bR b1 P bn bs da ck ca
 go_wp2_with fail
 obtain⟨c4,C⟩:=aG cm.out (V I k) (U c9) (V I dj) (V I b4) (U cl) (Y cS cT dg) (Y c6 c0 b6);exact bodyPost_ret (aO results107 _ _ _ _ c4 rfl rfl) rfl ⟨⟨_,rfl,xS.base (xS.far C (λk (f:o.heap.size<=k) _ e=>by omega) _ _ ct.out) (λk (f:o.heap.size<=k)=>by omega)⟩,c3.out.far C (by omega) di b5,c5.out.step C (λk f e=>by omega)⟩
theorem eo(K:Int)(c:ByteArray)(d f:Option Addr)(i g b a:Nat)(w:World):Calls π 241 #[γ #[V I K,U c,V I 0,V I 0,U ⟨#[]⟩,Y d i b,Y f g a]] w λe w'=>e=ρ (β true)/\Below w.heap.size w w':=by
 obtain⟨p,m,k,o,l,j,n,_⟩:=bd (af w (J #[V I K,U c,V I 0,V I 0,U ⟨#[]⟩,Y d i b,Y f g a] 161));have q:=xC
 go_enter func241,ntmps241
 go_wp2_with fail
 go_ret
 exact⟨rfl,(ζ _ _).alloc (η _) _⟩
theorem gA(K i j:Int)(f k:ByteArray)(c l:Option Addr)(n m b g:Nat)(w:World)(a:List Tp.Sc)(q:NS)(A:n=a.length)(u:Row w q n (Y c n b) (xV a))(r:∀x∈a,x8 x=true/\x.s.length<=1000)(y:Glob w):Calls π 242 #[γ #[V I K,U k,V I i,V I j,U f,Y c n b,Y l m g]] w λe w'=>e=ρ (β true)/\Below w.heap.size w w':=by
 subst A;have d:Below w.heap.size w (w.alloc (J #[V I K,U k,V I i,V I j,U f,Y c a.length b,Y l m g] 161)):=(ζ _ _).alloc (η _) _;have z:=af w (J #[V I K,U k,V I i,V I j,U f,Y c a.length b,Y l m g] 161);obtain⟨P,L,G,N,H,F,M,_⟩:=bd z;have v:=u.below d;have s:=eE 273 (.inr rfl) a _ q _ v r (y.step d);obtain⟨t,p⟩:=zx2 s d;clear s u v r d y
 go_enter func242,ntmps242
 go_upto_region 2 with (fail)
 generalize (w.alloc (J #[V I K,U k,V I i,V I j,U f,Y c a.length b,Y l m g] 161))=D at *
 go_wp2_with fail
 refine t.out.mono ?_;rintro e E ⟨rfl,o⟩;have C:=zD (cR p.out (o.mono (η _)));clear o t p
 go_wp2_with fail
 go_ret
 exact⟨rfl,C.out⟩
theorem o4(K R T ab:Int)(F c:ByteArray)(d f:Option Addr)(ad g b a:Nat)(w:World)(m:∀k,Far xO w k->Calls π 241 #[γ #[V I K,U c,V I 0,V I 0,U ⟨#[]⟩,Y d 0 b,Y f g a]] k λe w'=>e=ρ (β true)/\Below k.heap.size k w'):
 Calls π 208 #[γ #[V I K,U c,V I 0,V I 0,U ⟨#[]⟩,Y d 0 b,Y f g a]] w λe w'=>e=ρ (β true)/\Below w.heap.size w w':=by
 have t:Far xO w (w.alloc (J #[V I K,U c,V I 0,V I 0,U ⟨#[]⟩,Y d 0 b,Y f g a] 161)):=(ξ _ w).alloc _;have n:=af w (J #[V I K,U c,V I 0,V I 0,U ⟨#[]⟩,Y d 0 b,Y f g a] 161);obtain⟨X,N,L,S,M,H,P,_⟩:=bd n;have p:=zD m;clear m
 go_enter func208,ntmps208
 go_upto_region 1 with (fail)
 have o:=zD t;generalize (w.alloc (J #[V I K,U c,V I 0,V I 0,U ⟨#[]⟩,Y d 0 b,Y f g a] 161))=i at *;have E:∀wx,Far xO i wx->wx.cell? ⟨w.heap.size,0,O⟩=W (V I K)/\wx.cell? ⟨w.heap.size,1,O⟩=W (U c)/\wx.cell? ⟨w.heap.size,2,O⟩=W (V I 0)/\wx.cell? ⟨w.heap.size,3,O⟩=W (V I 0)/\wx.cell? ⟨w.heap.size,4,O⟩=W (U ⟨#[]⟩)/\wx.cell? ⟨w.heap.size,5,O⟩=W (Y d 0 b)/\wx.cell? ⟨w.heap.size,6,O⟩=W (Y f g a):=λwx y=>by obtain⟨q,u,D,v,z,x,s,_⟩:=bd (y.heap n id);exact⟨q,u,D,v,z,x,s⟩
 go_region_held3 (λw'=>w'.cell? ⟨w.heap.size,0,O⟩=W (V I K)/\w'.cell? ⟨w.heap.size,1,O⟩=W (U c)/\w'.cell? ⟨w.heap.size,2,O⟩=W (V I 0)/\w'.cell? ⟨w.heap.size,3,O⟩=W (V I 0)/\w'.cell? ⟨w.heap.size,4,O⟩=W (U ⟨#[]⟩)/\w'.cell? ⟨w.heap.size,5,O⟩=W (Y d 0 b)/\w'.cell? ⟨w.heap.size,6,O⟩=W (Y f g a)) (exact E _ (by repeat (first|exact ξ _ _|assumption|refine Far.drew ?_|refine Far.alloc ?_ _|refine Far.drewN ?_ _))) (first|(go_at_call 241;refine(p.out i.drew (o.out.trans (by repeat (first|exact ξ _ _|assumption|refine Far.drew ?_|refine Far.alloc ?_ _|refine Far.drewN ?_ _)))).mono ?_;rintro e l ⟨rfl,r⟩;have G:Far xO i l:=(show Far xO i i.drew by repeat (first|exact ξ _ _|assumption|refine Far.drew ?_|refine Far.alloc ?_ _|refine Far.drewN ?_ _)).below r)|(go_at_call 240;refine(a7 240 (.inr rfl) _ 2 (by omega) _ (by intro j ac;have A:j=0\/j=1:=(by omega);rcases A with rfl|rfl<;>exact aY rfl rfl)).mono ?_;rintro e al ⟨rfl,rfl⟩))
 have C:Far xO i (l.alloc (J #[β true,β true] 4)):=by repeat (first|exact ξ _ _|assumption|refine Far.drew ?_|refine Far.alloc ?_ _|refine Far.drewN ?_ _)
 go_wp2_with fail
 go_ret
 exact⟨rfl,(o.out.trans C).to_below (η _) (λ_ _ e=>e)⟩
theorem o6(K P S ab:Int)(E a:ByteArray)(d f:Option Addr)(al ad c b:Nat)(w:World)(l:∀i,Far xO w i->Calls π 241 #[γ #[V I K,U a,V I 0,V I 0,U ⟨#[]⟩,Y d 0 c,Y f 0 b]] i λe w'=>e=ρ (β true)/\Below i.heap.size i w')(T:a.toList.isEmpty=false):
 Calls π 210 #[γ #[V I K,U a,V I 0,V I 0,U ⟨#[]⟩,Y d 0 c,Y f 0 b]] w λe w'=>e=ρ (β true)/\Below w.heap.size w w':=by
 have s:Far xO w (w.alloc (J #[V I K,U a,V I 0,V I 0,U ⟨#[]⟩,Y d 0 c,Y f 0 b] 161)):=(ξ _ w).alloc _;have m:=af w (J #[V I K,U a,V I 0,V I 0,U ⟨#[]⟩,Y d 0 c,Y f 0 b] 161);obtain⟨X,M,H,R,L,G,N,_⟩:=bd m;have o:=zD l;clear l
 go_enter func210,ntmps210
 go_upto_region 1 with (fail)
 have n:=zD s;generalize (w.alloc (J #[V I K,U a,V I 0,V I 0,U ⟨#[]⟩,Y d 0 c,Y f 0 b] 161))=g at *;have D:∀wx,Far xO g wx->wx.cell? ⟨w.heap.size,0,O⟩=W (V I K)/\wx.cell? ⟨w.heap.size,1,O⟩=W (U a)/\wx.cell? ⟨w.heap.size,2,O⟩=W (V I 0)/\wx.cell? ⟨w.heap.size,3,O⟩=W (V I 0)/\wx.cell? ⟨w.heap.size,4,O⟩=W (U ⟨#[]⟩)/\wx.cell? ⟨w.heap.size,5,O⟩=W (Y d 0 c)/\wx.cell? ⟨w.heap.size,6,O⟩=W (Y f 0 b):=λwx x=>by obtain⟨p,t,C,u,y,v,r,_⟩:=bd (x.heap m id);exact⟨p,t,C,u,y,v,r⟩
 go_region_held3 (λw'=>w'.cell? ⟨w.heap.size,0,O⟩=W (V I K)/\w'.cell? ⟨w.heap.size,1,O⟩=W (U a)/\w'.cell? ⟨w.heap.size,2,O⟩=W (V I 0)/\w'.cell? ⟨w.heap.size,3,O⟩=W (V I 0)/\w'.cell? ⟨w.heap.size,4,O⟩=W (U ⟨#[]⟩)/\w'.cell? ⟨w.heap.size,5,O⟩=W (Y d 0 c)/\w'.cell? ⟨w.heap.size,6,O⟩=W (Y f 0 b)) (exact D _ (by repeat (first|exact ξ _ _|assumption|refine Far.drew ?_|refine Far.alloc ?_ _|refine Far.drewN ?_ _))) (first|(go_at_call 241;refine(o.out g.drew (n.out.trans (by repeat (first|exact ξ _ _|assumption|refine Far.drew ?_|refine Far.alloc ?_ _|refine Far.drewN ?_ _)))).mono ?_;rintro e k ⟨rfl,q⟩;have F:Far xO g k:=(show Far xO g g.drew by repeat (first|exact ξ _ _|assumption|refine Far.drew ?_|refine Far.alloc ?_ _|refine Far.drewN ?_ _)).below q)|(go_at_call 240;refine(a7 240 (.inr rfl) _ 4 (by omega) _ (by intro j ac;have z:j=0\/j=1\/j=2\/j=3:=(by omega);rcases z with rfl|rfl|rfl|rfl<;>exact aY rfl rfl)).mono ?_;rintro e an ⟨rfl,rfl⟩))
 have A:Far xO g (k.alloc (J #[β true,β true,β true,β true] 4)):=by repeat (first|exact ξ _ _|assumption|refine Far.drew ?_|refine Far.alloc ?_ _|refine Far.drewN ?_ _)
 go_wp2_with fail
 go_ret
 exact⟨rfl,(n.out.trans A).to_below (η _) (λ_ _ e=>e)⟩
theorem o9(K ac al ao:Int)(M g:ByteArray)(i k:Option Addr)(a2 a0 f d:Nat)(w:World)(a:Nat)(n:∀b,Far xO w b->Calls π 241 #[γ #[V I K,U g,V I 0,V I 0,U ⟨#[]⟩,Y i a f,Y k a d]] b λe w'=>e=ρ (β true)/\Below b.heap.size b w')(p:∀b,Far xO w b->Calls π 242 #[γ #[V I K,U g,V I 0,V I 0,U ⟨#[]⟩,Y i a f,Y k a d]] b λe w'=>e=ρ (β true)/\Below b.heap.size b w')(av:∀b,(binOp .eql 3 (V I (a:Int)) (V I (a:Int))).run π b=.ok (β true) b):
 Calls π 209 #[γ #[V I K,U g,V I 0,V I 0,U ⟨#[]⟩,Y i a f,Y k a d]] w λe w'=>e=ρ (β true)/\Below w.heap.size w w':=by
 have x:Far xO w (w.alloc (J #[V I K,U g,V I 0,V I 0,U ⟨#[]⟩,Y i a f,Y k a d] 161)):=(ξ _ w).alloc _;have o:=af w (J #[V I K,U g,V I 0,V I 0,U ⟨#[]⟩,Y i a f,Y k a d] 161);obtain⟨an,T,R,ad,S,P,X,_⟩:=bd o;obtain⟨r,t⟩:=zx2 n p;clear n p
 go_enter func209,ntmps209
 go_upto_region 1 with (fail)
 have m:=zD x;generalize (w.alloc (J #[V I K,U g,V I 0,V I 0,U ⟨#[]⟩,Y i a f,Y k a d] 161))=c at *;have L:∀wx,Far xO c wx->wx.cell? ⟨w.heap.size,0,O⟩=W (V I K)/\wx.cell? ⟨w.heap.size,1,O⟩=W (U g)/\wx.cell? ⟨w.heap.size,2,O⟩=W (V I 0)/\wx.cell? ⟨w.heap.size,3,O⟩=W (V I 0)/\wx.cell? ⟨w.heap.size,4,O⟩=W (U ⟨#[]⟩)/\wx.cell? ⟨w.heap.size,5,O⟩=W (Y i a f)/\wx.cell? ⟨w.heap.size,6,O⟩=W (Y k a d):=λwx C=>by obtain⟨s,y,H,z,D,A,v,_⟩:=bd (C.heap o id);exact⟨s,y,H,z,D,A,v⟩
 go_region_held3 (λw'=>w'.cell? ⟨w.heap.size,0,O⟩=W (V I K)/\w'.cell? ⟨w.heap.size,1,O⟩=W (U g)/\w'.cell? ⟨w.heap.size,2,O⟩=W (V I 0)/\w'.cell? ⟨w.heap.size,3,O⟩=W (V I 0)/\w'.cell? ⟨w.heap.size,4,O⟩=W (U ⟨#[]⟩)/\w'.cell? ⟨w.heap.size,5,O⟩=W (Y i a f)/\w'.cell? ⟨w.heap.size,6,O⟩=W (Y k a d)) (exact L _ (by repeat (first|exact ξ _ _|assumption|refine Far.drew ?_|refine Far.alloc ?_ _|refine Far.drewN ?_ _))) (first|(go_at_call 241;refine(r.out c.drew (m.out.trans (by repeat (first|exact ξ _ _|assumption|refine Far.drew ?_|refine Far.alloc ?_ _|refine Far.drewN ?_ _)))).mono ?_;rintro e l ⟨rfl,u⟩;have N:Far xO c l:=(show Far xO c c.drew by repeat (first|exact ξ _ _|assumption|refine Far.drew ?_|refine Far.alloc ?_ _|refine Far.drewN ?_ _)).below u)|(go_at_call 242;refine(t.out l (m.out.trans (by repeat (first|exact ξ _ _|assumption|refine Far.drew ?_|refine Far.alloc ?_ _|refine Far.drewN ?_ _)))).mono ?_;rintro e q ⟨rfl,E⟩;have ab:Far xO c q:=(show Far xO c l by repeat (first|exact ξ _ _|assumption|refine Far.drew ?_|refine Far.alloc ?_ _|refine Far.drewN ?_ _)).below E)|(go_at_call 240;refine(a7 240 (.inr rfl) _ 3 (by omega) _ (by intro j a1;have F:j=0\/j=1\/j=2:=(by omega);rcases F with rfl|rfl|rfl<;>exact aY rfl rfl)).mono ?_;rintro e a3 ⟨rfl,rfl⟩))
 have G:Far xO c (q.alloc (J #[β true,β true,β true] 4)):=by repeat (first|exact ξ _ _|assumption|refine Far.drew ?_|refine Far.alloc ?_ _|refine Far.drewN ?_ _)
 go_wp2_with fail
 go_ret
 exact⟨rfl,(m.out.trans G).to_below (η _) (λ_ _ e=>e)⟩
theorem uV(K g i:Int)(c b:ByteArray)(j l:Option Addr)(n m f d p:Nat)(w:World)(q:(K=0/\p=207)\/(K=1/\p=208)\/(K=2/\p=209)\/(K=3/\p=210))(an:b.toList=[])(D:∀a,Far xO w a->Calls π p #[γ #[V I K,U b,V I g,V I i,U c,Y j n f,Y l m d]] a λe w'=>e=ρ (β true)/\Below a.heap.size a w'):
 Calls π 159 #[γ #[V I K,U b,V I g,V I i,U c,Y j n f,Y l m d]] w λe w'=>e=ρ (β true)/\Below w.heap.size w w':=by
 have A:Far xO w ((w.alloc (J #[V I K,U b,V I g,V I i,U c,Y j n f,Y l m d] 161)).alloc (J #[φ (.func 207) #[] #[],φ (.func 208) #[] #[],φ (.func 209) #[] #[],φ (.func 210) #[] #[]] 378)):=((ξ _ w).alloc _).alloc _;have y:=aa (J #[φ (.func 207) #[] #[],φ (.func 208) #[] #[],φ (.func 209) #[] #[],φ (.func 210) #[] #[]] 378) (af w (J #[V I K,U b,V I g,V I i,U c,Y j n f,Y l m d] 161));have x:=ah (w.alloc (J #[V I K,U b,V I g,V I i,U c,Y j n f,Y l m d] 161)) (J #[φ (.func 207) #[] #[],φ (.func 208) #[] #[],φ (.func 209) #[] #[],φ (.func 210) #[] #[]] 378) (w.heap.size+1) (by simp);have z:=zD A;clear A;obtain⟨k,r,rfl,rfl⟩:∃k:Nat,k < 4/\K=(k:Int)/\p=207+k:=by
  rcases q with ⟨rfl,rfl⟩|⟨rfl,rfl⟩|⟨rfl,rfl⟩|⟨rfl,rfl⟩
  ·exact⟨0,by decide,rfl,rfl⟩
  ·exact⟨1,by decide,rfl,rfl⟩
  ·exact⟨2,by decide,rfl,rfl⟩
  ·exact⟨3,by decide,rfl,rfl⟩
 have L:(#[φ (.func 207) #[] #[],φ (.func 208) #[] #[],φ (.func 209) #[] #[],φ (.func 210) #[] #[]]:Array Value)[k]? =W (φ (.func (207+k)) #[] #[]):=by
  match k,r with
  |0,_=>rfl
  |1,_=>rfl
  |2,_=>rfl
  |3,_=>rfl
 have al:∀args a,(callFunc (207+k) args).run π a=.ok (.enter (207+k) args) a:=by
  match k,r with
  |0,_=>intro args a;kernel_rfl
  |1,_=>intro args a;kernel_rfl
  |2,_=>intro args a;kernel_rfl
  |3,_=>intro args a;kernel_rfl
 have ao:(0:Int)<=(k:Int):=by omega
 have ac:(k:Int) < 4:=by omega
 have ad:k < 4:=r;have R:=zD D;clear D
 go_enter func159,ntmps159
 go_upto_region 2 with (fail)
 generalize ((w.alloc (J #[V I (k:Int),U b,V I g,V I i,U c,Y j n f,Y l m d] 161)).alloc (J #[φ (.func 207) #[] #[],φ (.func 208) #[] #[],φ (.func 209) #[] #[],φ (.func 210) #[] #[]] 378))=o at *;have t:∀wx,Far xO o wx->wx.cell? ⟨w.heap.size,0,O⟩=W (V I (k:Int))/\wx.cell? ⟨w.heap.size,1,O⟩=W (U b)/\wx.cell? ⟨w.heap.size,2,O⟩=W (V I g)/\wx.cell? ⟨w.heap.size,3,O⟩=W (V I i)/\wx.cell? ⟨w.heap.size,4,O⟩=W (U c)/\wx.cell? ⟨w.heap.size,5,O⟩=W (Y j n f)/\wx.cell? ⟨w.heap.size,6,O⟩=W (Y l m d)/\wx.cell? ⟨w.heap.size+1,k,O⟩=W (φ (.func (207+k)) #[] #[]):=λwx q=>by obtain⟨F,N,ab,P,T,S,M,_⟩:=bd (q.heap y id);exact⟨F,N,ab,P,T,S,M,(ae (q.heap x id) k).trans L⟩
 have H:=t _ ((ξ _ o).drew);have X:=zD t;clear t y x;refine wp_region_noPanic ?_;refine ar (λw'=>w'.cell? ⟨w.heap.size,0,O⟩=W (V I (k:Int))/\w'.cell? ⟨w.heap.size,1,O⟩=W (U b)/\w'.cell? ⟨w.heap.size,2,O⟩=W (V I g)/\w'.cell? ⟨w.heap.size,3,O⟩=W (V I i)/\w'.cell? ⟨w.heap.size,4,O⟩=W (U c)/\w'.cell? ⟨w.heap.size,5,O⟩=W (Y j n f)/\w'.cell? ⟨w.heap.size,6,O⟩=W (Y l m d)/\w'.cell? ⟨w.heap.size+1,k,O⟩=W (φ (.func (207+k)) #[] #[])) [] (by kernel_rfl) ?_;refine aJ (by kernel_rfl) (λ_ _ _ _ s=>s) H 15 [0,1,2,3,4,5,6,7,8,9,10,11,12,13,14,15,16] _ _ (by kernel_rfl) ?_;iterate 17 (refine Ei ?_;(try go_frame))
 refine xT.done ?_;try dsimp only
 refine aq [17] ?_;refine aj rfl (λK C=>?_) xQ.nil
 go_simp
 refine(R.out o.drew (z.out.trans ((ξ _ o).drew))).mono ?_;rintro e E ⟨rfl,G⟩;have u:Far xO o E:=(show Far xO o o.drew by repeat (first|exact ξ _ _|assumption|refine Far.drew ?_|refine Far.alloc ?_ _|refine Far.drewN ?_ _)).below G;have v:=X.out _ u;refine C.out _ _ (λ_=>v) ?_;clear C K
 (try go_frame)
 refine aJ (by kernel_rfl) (λ_ _ _ _ s=>s) v 0 [18,19,20,21,22,23,24,25,26,27,28,29,30,31] _ _ (by kernel_rfl) ?_;iterate 7 (refine Ei ?_;(try go_frame))
 iterate 4 (refine aB rfl (by simp only[zH,zI,zJ];rfl) (by kernel_rfl) ?_;(try go_frame))
 iterate 3 (refine Ei ?_;(try go_frame))
 refine xT.done ?_;try dsimp only
 refine aP (by kernel_rfl) (NoPanic.normal ?_) _
 go_wp2_with fail
 go_ret
 exact⟨rfl,(z.out.trans u).to_below (η _) (λ_ _ e=>e)⟩
theorem uU(K i j:Int)(d b:ByteArray)(l m:Option Addr)(o n g f p:Nat)(w:World)(s:(K=0/\p=207)\/(K=1/\p=208)\/(K=2/\p=209)\/(K=3/\p=210))(a3:b.toList.isEmpty=false)(D:∀a,Calls π 211 #[U b] a λe w'=>e=ρ (β true)/\Below a.heap.size a w')(H:∀a,Far xO w a->Calls π p #[γ #[V I K,U b,V I i,V I j,U d,Y l o g,Y m n f]] a λe w'=>e=ρ (β true)/\Below a.heap.size a w'):
 Calls π 159 #[γ #[V I K,U b,V I i,V I j,U d,Y l o g,Y m n f]] w λe w'=>e=ρ (β true)/\Below w.heap.size w w':=by
 have C:Far xO w ((w.alloc (J #[V I K,U b,V I i,V I j,U d,Y l o g,Y m n f] 161)).alloc (J #[φ (.func 207) #[] #[],φ (.func 208) #[] #[],φ (.func 209) #[] #[],φ (.func 210) #[] #[]] 378)):=((ξ _ w).alloc _).alloc _;have z:=aa (J #[φ (.func 207) #[] #[],φ (.func 208) #[] #[],φ (.func 209) #[] #[],φ (.func 210) #[] #[]] 378) (af w (J #[V I K,U b,V I i,V I j,U d,Y l o g,Y m n f] 161));have y:=ah (w.alloc (J #[V I K,U b,V I i,V I j,U d,Y l o g,Y m n f] 161)) (J #[φ (.func 207) #[] #[],φ (.func 208) #[] #[],φ (.func 209) #[] #[],φ (.func 210) #[] #[]] 378) (w.heap.size+1) (by simp);have an:=zD D;clear D;have A:=zD C;clear C;obtain⟨k,u,rfl,rfl⟩:∃k:Nat,k < 4/\K=(k:Int)/\p=207+k:=by
  rcases s with ⟨rfl,rfl⟩|⟨rfl,rfl⟩|⟨rfl,rfl⟩|⟨rfl,rfl⟩
  ·exact⟨0,by decide,rfl,rfl⟩
  ·exact⟨1,by decide,rfl,rfl⟩
  ·exact⟨2,by decide,rfl,rfl⟩
  ·exact⟨3,by decide,rfl,rfl⟩
 have R:(#[φ (.func 207) #[] #[],φ (.func 208) #[] #[],φ (.func 209) #[] #[],φ (.func 210) #[] #[]]:Array Value)[k]? =W (φ (.func (207+k)) #[] #[]):=by
  match k,u with
  |0,_=>rfl
  |1,_=>rfl
  |2,_=>rfl
  |3,_=>rfl
 have a2:∀args a,(callFunc (207+k) args).run π a=.ok (.enter (207+k) args) a:=by
  match k,u with
  |0,_=>intro args a;kernel_rfl
  |1,_=>intro args a;kernel_rfl
  |2,_=>intro args a;kernel_rfl
  |3,_=>intro args a;kernel_rfl
 have a4:(0:Int)<=(k:Int):=by omega
 have a0:(k:Int) < 4:=by omega
 have a1:k < 4:=u;have ab:=zD H;clear H
 go_enter func159,ntmps159
 go_upto_region 2 with (fail)
 generalize ((w.alloc (J #[V I (k:Int),U b,V I i,V I j,U d,Y l o g,Y m n f] 161)).alloc (J #[φ (.func 207) #[] #[],φ (.func 208) #[] #[],φ (.func 209) #[] #[],φ (.func 210) #[] #[]] 378))=c at *;have v:∀wx,Far xO c wx->wx.cell? ⟨w.heap.size,0,O⟩=W (V I (k:Int))/\wx.cell? ⟨w.heap.size,1,O⟩=W (U b)/\wx.cell? ⟨w.heap.size,2,O⟩=W (V I i)/\wx.cell? ⟨w.heap.size,3,O⟩=W (V I j)/\wx.cell? ⟨w.heap.size,4,O⟩=W (U d)/\wx.cell? ⟨w.heap.size,5,O⟩=W (Y l o g)/\wx.cell? ⟨w.heap.size,6,O⟩=W (Y m n f)/\wx.cell? ⟨w.heap.size+1,k,O⟩=W (φ (.func (207+k)) #[] #[]):=λwx s=>by obtain⟨M,T,av,X,ad,ac,S,_⟩:=bd (s.heap z id);exact⟨M,T,av,X,ad,ac,S,(ae (s.heap y id) k).trans R⟩
 have P:=v _ ((ξ _ c).drew);have G:=zD v;clear v z y;refine wp_region_noPanic ?_;refine ar (λw'=>w'.cell? ⟨w.heap.size,0,O⟩=W (V I (k:Int))/\w'.cell? ⟨w.heap.size,1,O⟩=W (U b)/\w'.cell? ⟨w.heap.size,2,O⟩=W (V I i)/\w'.cell? ⟨w.heap.size,3,O⟩=W (V I j)/\w'.cell? ⟨w.heap.size,4,O⟩=W (U d)/\w'.cell? ⟨w.heap.size,5,O⟩=W (Y l o g)/\w'.cell? ⟨w.heap.size,6,O⟩=W (Y m n f)/\w'.cell? ⟨w.heap.size+1,k,O⟩=W (φ (.func (207+k)) #[] #[])) [] (by kernel_rfl) ?_;refine aJ (by kernel_rfl) (λ_ _ _ _ r=>r) P 15 [0,1,2,3,4,5,6,7,8,9,10,11,12,13,14,15,16] _ _ (by kernel_rfl) ?_;iterate 17 (refine Ei ?_;(try go_frame))
 refine xT.done ?_;try dsimp only
 refine aq [17] ?_;refine aj rfl (λK q=>?_) xQ.nil
 go_simp
 refine(ab.out c.drew (A.out.trans ((ξ _ c).drew))).mono ?_;rintro e t ⟨rfl,N⟩;have L:Far xO c t:=(show Far xO c c.drew by repeat (first|exact ξ _ _|assumption|refine Far.drew ?_|refine Far.alloc ?_ _|refine Far.drewN ?_ _)).below N;have x:=G.out _ L;refine q.out _ _ (λ_=>x) ?_;clear q K
 (try go_frame)
 refine aJ (by kernel_rfl) (λ_ _ _ _ r=>r) x 4 [18,19,20,21,22,23,24,25,26,27] _ _ (by kernel_rfl) ?_;iterate 10 (refine Ei ?_;(try go_frame))
 refine xT.done ?_;try dsimp only
 refine aq [28] ?_;refine aj rfl (λK q=>?_) xQ.nil
 go_simp
 refine(an.out t).mono ?_;rintro e ao ⟨rfl,al⟩;have E:Far xO c ao:=(show Far xO c t by repeat (first|exact ξ _ _|assumption|refine Far.drew ?_|refine Far.alloc ?_ _|refine Far.drewN ?_ _)).below al;have F:=G.out _ E;refine q.out _ _ (λ_=>F) ?_;clear q K
 (try go_frame)
 refine aJ (by kernel_rfl) (λ_ _ _ _ r=>r) F 0 [29,30,31] _ _ (by kernel_rfl) ?_;iterate 3 (refine Ei ?_;(try go_frame))
 refine xT.done ?_;try dsimp only
 refine aP (by kernel_rfl) (NoPanic.normal ?_) _
 go_wp2_with fail
 go_ret
 exact⟨rfl,(A.out.trans E).to_below (η _) (λ_ _ e=>e)⟩
theorem cZ(n:Tp.B):(⟨n.toArray⟩:ByteArray).toList.isEmpty=n.isEmpty:=by rw[ByteArray.toList_eq]
theorem kG(k:Int)(i:Tp.B)(x:Tp.Sc)(d:List Tp.Sc)(l:List Tp.Tree)(kv D:Value)(E:NS)(w:World)(F:Row w E d.length kv (xV d))(T:∃a al,D=Y a l.length al)(X:Glob w)(H:x8 x=true/\x.s.length<=1000)(R:∀G∈d,x8 G=true/\G.s.length<=1000)(an:i.length<=1000)(C:Tp.shaped ⟨k,i,x,d,l⟩=true):
 Calls π 159 #[γ #[V I k,xR i,V I x.k,V I x.n,xR x.s,kv,D]] w λe w'=>e=ρ (β true)/\Below w.heap.size w w':=by
 obtain⟨r,q,rfl,_⟩:=F.form;obtain⟨s,o,rfl⟩:=T;have N:∀b,Far xO w b->Glob b:=λb f=>X.far f (λ_ _ e=>e);unfold Tp.shaped at C;rw[zQ]at C;obtain⟨c,L⟩:=C;have p:∀j,((k=0/\j=207)\/(k=1/\j=208)\/(k=2/\j=209)\/(k=3/\j=210))->(∀b,Far xO w b->Calls π j #[γ #[V I k,xR i,V I x.k,V I x.n,xR x.s,Y r d.length q,Y s l.length o]] b λe w'=>e=ρ (β true)/\Below b.heap.size b w')->
  Calls π 159 #[γ #[V I k,xR i,V I x.k,V I x.n,xR x.s,Y r d.length q,Y s l.length o]] w λe w'=>e=ρ (β true)/\Below w.heap.size w w':=by
  intro j f M;cases A:i.isEmpty with
  |true=>
   obtain rfl:i=[]:=by simpa using A
   exact uV k x.k x.n ⟨x.s.toArray⟩ ⟨#[]⟩ r s d.length l.length q o j w f (by rw[ByteArray.toList_eq]) M
  |false=>
   rw[A,Bool.false_or]at L;refine uU k x.k x.n ⟨x.s.toArray⟩ ⟨i.toArray⟩ r s d.length l.length q o j w f (by rw[cZ];exact A) (λb=>io ⟨i.toArray⟩ (by show i.length<=_;omega) L b) M
 by_cases t:k=0
 ·rw[if_pos t]at c
  simp only[zQ,List.isEmpty_iff]at c;refine p 207 (.inl ⟨t,rfl⟩) (λb f=>?_);have n:d.length=0:=by rw[c.1.2];rfl
  have u:l.length=0:=by rw[c.2];rfl
  rw[n,u];exact o7 _ _ _ 0 _ _ _ _ 0 0 _ _ b (λg m=>iW x H.1 H.2 g (N g (f.trans m)))
 ·rw[if_neg t]at c
  by_cases z:k=1
  ·rw[if_pos z]at c
   simp only[zQ,List.isEmpty_iff,decide_eq_true_eq]at c;refine p 208 (.inr (.inl ⟨z,rfl⟩)) (λb f=>?_);have n:d.length=0:=by rw[c.2];rfl
   rw[n,c.1];exact o4 _ 0 0 0 ⟨#[]⟩ _ _ _ 0 _ _ _ b (λg m=>eo _ _ _ _ _ _ _ _ g)
  ·rw[if_neg z]at c
   by_cases v:k=2
   ·rw[if_pos v]at c
    simp only[zQ,List.isEmpty_iff,decide_eq_true_eq,beq_iff_eq]at c;obtain⟨⟨y,ac⟩,_⟩:=c;refine p 209 (.inr (.inr (.inl ⟨v,rfl⟩))) (λb f=>?_);rw[y,<-ac];exact o9 _ 0 0 0 ⟨#[]⟩ _ _ _ 0 0 _ _ b _ (λg m=>eo _ _ _ _ _ _ _ _ g) (λg m=>gA _ _ _ _ _ _ _ _ _ _ _ g d E rfl (F.far (f.trans m) (λ_ _ _ e=>e)) R (N g (f.trans m))) (λb=>by simp[go_sem])
   ·rw[if_neg v]at c
    simp only[zQ,List.isEmpty_iff,decide_eq_true_eq,beq_iff_eq,Bool.not_eq_true']at c;obtain⟨⟨⟨⟨ab,y⟩,S⟩,ad⟩,P⟩:=c;refine p 210 (.inr (.inr (.inr ⟨ab,rfl⟩))) (λb f=>?_);have n:d.length=0:=by rw[S];rfl
    have u:l.length=0:=by rw[ad];rfl
    rw[n,u,y];exact o6 _ 0 0 0 ⟨#[]⟩ _ _ _ 0 0 _ _ b (λg m=>eo _ _ _ _ _ _ _ _ g) (by rw[cZ];exact P)
end Go.Proofs.YtbikgdhbiebhcaaGreatDoor
