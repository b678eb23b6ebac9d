/- Part 15. -/
import Derived.Test.YtbikgdhbiebhcaaGreatDoorW14
set_option linter.unusedVariables false
set_option linter.unusedSimpArgs false
set_option maxRecDepth 100000
set_option maxHeartbeats 2000000
open Go.Value renaming int -> V, string -> U, slice -> Y, bool -> β
open Go.IntKind renaming i64 -> I
open Option renaming some -> W, none -> O
open Go.Ending renaming returned -> ρ
open Go.Proofs.Tryz renaming prog -> π
open And renaming intro -> θ
namespace Go.Proofs.YtbikgdhbiebhcaaGreatDoor
open Go.RowKit Tryz
section
open Tp in
theorem gR (n:Nat) (s:B) (h:s.length<=20/\Ln.right s=true):yd n (yw s) where
 sc:=⟨by unfold yw x8;simp[h.2],by show s.length<=_;omega⟩
 keys:=λy hy=>by simp[yw]at hy
 kl:=by simp[yw]
 kk:=λe=>by simp[yw]at e
 k0:=λ_=>rfl
 kr:=by simp[yw]
 kid:=λk hk=>by simp[yw]at hk
 kidl:=by simp[yw]
theorem jX:x8 Tp.Sc.null=true/\Tp.Sc.null.s.length<=100:=⟨by decide,by decide⟩
open Tp in
theorem ea (n:Nat) (ks:List Nat) (h:∀k∈ks,k < n) (hl:ks.length<=100):yd n ⟨1,Sc.null,[],ks⟩ where
 sc:=jX
 keys:=λy hy=>by simp at hy
 kl:=by simp
 kk:=λe=>by simp at e
 k0:=λe=>by simp at e
 kr:=by simp
 kid:=h
 kidl:=hl
open Tp in
theorem fY:∀a:List B,(∀s∈a,s.length<=20/\Ln.right s=true)->yE (a.map yV)/\yl (a.map yV)=[]
 | [],_=>⟨by simp[yE],by simp[yl]⟩
 |s::r,h=>by
  obtain⟨c,b⟩:=fY r λx e=>h x (by simp[e]);have d:=h s (by simp);rw[List.map_cons];refine⟨?_,?_⟩
  ·unfold yE
   refine⟨?_,c⟩;unfold yV zb;exact⟨⟨by unfold x8;simp[d.2],by show s.length<=_;omega⟩,by simp,by simp,by simp,by simp,by simp[yE]⟩
  ·unfold yl
   rw[b];simp[yV,yv,yl]
open Tp in
theorem iv (a:List B) (e:a.length<=9) (b:∀s∈a,s.length<=20/\Ln.right s=true):zb (yP a)/\yv (yP a)=[]:=by
 obtain⟨d,c⟩:=fY a b;unfold yP zb yv;rw[c];exact⟨⟨⟨jX.1,by decide⟩,by simp,by simp,by simp,by simp;omega,d⟩,by simp⟩
open Tp in
theorem oh (a:List B) (j:a.length<=9) (e:∀s∈a,s.length<=20/\Ln.right s=true):∀x∈yr a,yd (yr a).length x:=by
 intro x b;have d:(yr a).length=a.length+1:=by simp[yr]
 rcases List.mem_cons.1 b with rfl|b
 ·rw[d]
  exact ea _ _ (λk c=>by obtain⟨i,g,rfl⟩:=List.mem_map.1 c;have:=List.mem_range.1 g;omega) (by simp;omega)
 ·obtain⟨s,f,rfl⟩:=List.mem_map.1 b
  exact gR _ s (e s f)
open Tp in
theorem gQ (a:List B) (n:Nat) (f:a.length<=9) (g:(firsts a).length+1<=n) (d:∀s∈a,s.length<=20/\Ln.right s=true):∀x∈ya (idxs a) (firsts a),yd n x:=by
 intro x b;rcases List.mem_cons.1 b with rfl|b
 ·exact ea _ _ (λk c=>by have:=dl a k c;omega) (by simp[idxs];omega)
 ·obtain⟨s,e,rfl⟩:=List.mem_map.1 b
  exact gR _ s (d s ((bH a s).1 e))
open Tp in
theorem nA (a:List B) (e:a.length<=9) (d:∀s∈a,s.length<=20/\Ln.right s=true):QOk (yr a) (0::idxs a) (ya (idxs a) (firsts a)):=by
 have j:=Tp.cp a;have g:(yr a).length=a.length+1:=by simp[yr]
 have k:(ya (idxs a) (firsts a)).length=(firsts a).length+1:=by simp[ya]
 have f:okGr 0 (yr a)=true:=by
  have c:=fE a (by omega);unfold quot at c;by_cases b:okGr 0 (yr a)=true
  ·exact b
  ·rw[if_neg b]at c;cases c
 refine qD _ _ _ (by omega) (oh a e d) (by rw[cS];exact gQ a _ e (by omega) d) (by rw[cS];omega) f (eM a) (by simp[idxs,g]) ?_ rfl (by rw[cS];exact dA a (by omega));intro i b;rcases List.mem_cons.1 b with rfl|b
 ·omega
 ·have:=dl a i b;omega
open Tp in
theorem nB (a:List B) (r:a≠[]) (p:a.length<=9) (d:∀s∈a,s.length<=20/\Ln.right s=true):zm (ya (idxs a) (firsts a)) (wantB a):=by
 have C:=Tp.cp a;have z:(ya (idxs a) (firsts a)).length=(firsts a).length+1:=by simp[ya]
 have c:∀k∈idxs a,1<=k/\k < (firsts a).length+1:=λk c=>⟨by obtain⟨s,_,rfl⟩:=List.mem_map.1 c;omega,dl a k c⟩;have n:(idxs a).length=a.length:=by simp[idxs]
 have m:idxs a≠[]:=by intro e;rw[e]at n;cases a with|nil=>exact r rfl|cons _ _=>simp at n
 have b:=pz a r p λs w=>(d s w).1;unfold canon at b;rw[fE a (by omega),Option.bind_some]at b;have o:=dA a (by omega);have u:=ie (idxs a) (firsts a) c m (by omega);unfold printed at b;rw[if_pos o,u]at b;cases f:deepest (ya (idxs a) (firsts a)) 1000 0 1 (List.replicate (ya (idxs a) (firsts a)).length 0) with
 |none=>rw[f]at b;cases b
 |some ds=>
  rw[f]at b;simp only at b;split at b
  ·rename_i hall
   split at b
   ·rename_i hps
    injection b with b;rw[<-b];have g:items (ya (idxs a) (firsts a)) 1000 0 0 [0]=W ((idxs a).map (λk=>45::32::quote ((firsts a).getD (k - 1) [])),[0]):=by
     rw[items,show (ya (idxs a) (firsts a)).getD 0 ⟨0,Sc.null,[],[]⟩=⟨1,Sc.null,[],idxs a⟩from rfl];rw[show headsOf ⟨1,Sc.null,[],idxs a⟩=(idxs a).map λ_=>[45]from rfl,show kidsOf ⟨1,Sc.null,[],idxs a⟩=idxs a from rfl,dj (idxs a) (firsts a) (idxs a) [0] 999 c (by omega)]
    refine nh _ ds _ (uB _ ds _ [0] ⟨1,Sc.null,[],idxs a⟩ 0 (by omega) (gQ a _ p (by omega) d) (fL _ _ (λk d=>(c k d).2) (by omega)) o f ?_ hps.1 rfl m ?_ g ?_ (by omega) hps.2)
    ·intro i g
     have:=List.all_eq_true.1 hall i (List.mem_range.2 g);exact of_decide_eq_true this
    ·unfold anchor
     rw[li _ _ (λk d=>(c k d).1)];rfl
    ·intro x l k v A q
     have t:x=⟨1,Sc.null,[],idxs a⟩:=by injection l with l;exact l.symm
     subst t;have y:=c k v;obtain⟨j,rfl⟩:∃j,k=j+1:=⟨k - 1,by omega⟩;have:(ya (idxs a) (firsts a))[j+1]? =((firsts a).map yw)[j]?:=rfl;rw[this,List.getElem?_map]at q;obtain⟨s,_,rfl⟩:=zN.1 q;rfl
   ·cases b
  ·cases b
end
section
open Tp in
theorem wK (a:List B) (q:a≠[]) (j:a.length<=9) (f:∀s∈a,s.length<=20/\Ln.right s=true):At ⟨(textA a).toArray⟩ ((zv 1 a).map λx=>⟨x.1,2,rowA x.2⟩) ((zv 1 a).map λx=>⟨x.1,2,[⟨5,[],0⟩,⟨2,x.2,4⟩]⟩) (yP a) (yr a):=by
 have w:=cT a λs p=>(f s p).1;have k:=lR a j f;have m:zv 1 a≠[]:=by
  intro e;have:=di a 1;rw[e]at this;cases a with
  |nil=>exact q rfl
  |cons _ _=>simp at this
 have l:∀x∈zv 1 a,x.2.length<=20/\Ln.right x.2=true:=λx c=>f x.2 (by rw[<-jb a 1];exact List.mem_map.2 ⟨x,c,rfl⟩);obtain⟨n,o⟩:=iv a j f;refine⟨?_,by show (Ln.split (textA a)).2.2=0;rw[k],by show (Ln.split (textA a)).1=_;rw[k],by rw[List.length_map,di];omega,?_,?_,uK _,?_,?_,n,fX a (by omega),by rw[o];simp,by have:=dm a;omega⟩
 ·show (textA a).length<=_
  omega
 ·intro x c
  obtain⟨b,_,rfl⟩:=List.mem_map.1 c;show (0:Int)<=2/\(2:Int)<=8000;omega
 ·intro x c
  obtain⟨b,i,rfl⟩:=List.mem_map.1 c;have g:=l b i;have v:=aD b.2;refine⟨?_,?_,dK _ λr u=>ej b.2 r (by unfold rowT;exact List.mem_cons_of_mem _ (List.mem_cons_of_mem _ u))⟩
  ·show (rowA b.2).length<=_
   simp[rowA];omega
  ·show Ln.right (rowA b.2)=true
   rw[show rowA b.2=[45,32,32,32]++(quote b.2++[32,32,32,35,32,110,111,116,101])from rfl,Ln.aS _ _ (by decide)];exact dh _ _ g.2 (Ln.aH _ (by decide))
 ·intro x c
  obtain⟨b,i,rfl⟩:=List.mem_map.1 c;have g:=l b i;refine⟨λt d=>?_,by show 2<=_;omega⟩;rcases List.mem_cons.1 d with rfl|d
  ·exact⟨by show 0<=_;omega,λe=>by simp at e⟩
  ·rw[List.mem_singleton]at d
   subst d;exact⟨by show b.2.length<=_;omega,λ_=>g.2⟩
 ·rw[pA _ m,jb]
open Tp in
theorem kh:∀(c:List B) (a:Nat),(∀s∈c,s.length<=20/\Ln.right s=true)->∀t∈yU a c,zf t
 | [],a,_,t,b=>by
  unfold yU at b;rw[List.mem_singleton]at b;subst b;exact⟨by show 0<=_;omega,λe=>by simp at e⟩
 |s::r,a,h,t,b=>by
  unfold yU at b;have d:=h s (by simp);rcases List.mem_cons.1 b with rfl|b
  ·exact⟨by show s.length<=_;omega,λ_=>d.2⟩
  ·rcases List.mem_cons.1 b with rfl|b
   ·exact⟨by show 0<=_;omega,λe=>by simp at e⟩
   ·exact kh r _ (λx f=>h x (by simp[f])) t b
open Tp in
theorem wJ (a:List B) (j:a.length<=9) (c:∀s∈a,s.length<=20/\Ln.right s=true):At ⟨(91::rowB a).toArray⟩ [⟨1,0,91::rowB a⟩] [⟨1,0,⟨8,[],0⟩::yU 1 a⟩] (yP a) (yr a):=by
 have n:=fu a λs f=>(c s f).1;have i:=lQ a j c;obtain⟨k,m⟩:=iv a j c;refine⟨?_,by show (Ln.split (91::rowB a)).2.2=0;rw[i],by show (Ln.split (91::rowB a)).1=_;rw[i],by simp,?_,?_,?_,?_,pB a 1,k,fX a (by omega),by rw[m];simp,by have:=dm a;omega⟩
 ·show (91::rowB a).length<=_
  simp;omega
 ·intro x b
  rw[List.mem_singleton]at b;subst b;show (0:Int)<=0/\(0:Int)<=8000;omega
 ·intro x b
  rw[List.mem_singleton]at b;subst b;refine⟨by show (91::rowB a).length<=_;simp;omega,by rw[Ln.aR _ _ (by decide)];exact el a λs f=>(c s f).2,dK _ λl g=>?_⟩;rcases List.mem_cons.1 g with rfl|g
  ·decide
  ·exact ek a l g
 ·simp only[ents,dz _ _ _ _ _ _ 9000 (pT a) (by omega),List.isEmpty_cons,Bool.false_eq_true,if_false]
 ·intro x b
  rw[List.mem_singleton]at b;subst b;refine⟨λt d=>?_,by show (⟨8,[],0⟩::yU 1 a:List Tk).length<=_;rw[zO,dg];omega⟩;rcases List.mem_cons.1 d with rfl|d
  ·exact⟨by show 0<=_;omega,λe=>by simp at e⟩
  ·exact kh a 1 c t d
open Tp in
theorem iC (a:List B) (d:a≠[]) (b:a.length<=9) (c:∀s∈a,s.length<=20/\Ln.right s=true) (w:World) (f:Glob w):
 Calls π 7 #[xR (textA a)] w λe w'=>e=ρ (.tuple #[xR (wantB a),V I 0])/\Below w.heap.size w w':=
 d7 _ _ _ _ _ _ _ _ (wK a d b c) (nA a b c) (nB a d b c) w f
open Tp in
theorem iB (a:List B) (f:a≠[]) (b:a.length<=9) (c:∀s∈a,s.length<=20/\Ln.right s=true) (w:World) (d:Glob w):
 Calls π 7 #[xR (91::rowB a)] w λe w'=>e=ρ (.tuple #[xR (wantB a),V I 0])/\Below w.heap.size w w':=
 d7 _ _ _ _ _ _ _ _ (wJ a b c) (nA a b c) (nB a f b c) w d
end
section
open Tp in
theorem qc (n:Nat) (ks:List Sc) (js:List Nat) (hk:∀y∈ks,x8 y=true/\y.s.length<=100) (hl:ks.length < 20) (hj:ks.length=js.length) (hn:∀k∈js,k < n):yd n ⟨2,Sc.null,ks,js⟩ where
 sc:=jX
 keys:=hk
 kl:=hl
 kk:=λ_=>hj
 k0:=λe=>by simp at e
 kr:=by simp
 kid:=hn
 kidl:=by show js.length<=_;omega
open Tp in
theorem sZ (n:Nat) (x:Sc) (h:x8 x=true/\x.s.length<=100):yd n ⟨0,x,[],[]⟩ where
 sc:=h
 keys:=λy hy=>by simp at hy
 kl:=by simp
 kk:=λe=>by simp at e
 k0:=λ_=>rfl
 kr:=by simp
 kid:=λk hk=>by simp at hk
 kidl:=by simp
open Tp in
theorem lU (a g b:UInt8) (i j k n:Nat) (c:a.toNat < 128/\g.toNat < 128/\b.toNat < 128) (f:i < n/\j < n/\k < n):yd n ⟨2,Sc.null,[⟨3,0,[a]⟩,⟨3,0,[g]⟩,⟨3,0,[b]⟩],[i,j,k]⟩:=by
 have e:∀b:UInt8,b.toNat < 128->x8 ⟨3,0,[b]⟩=true:=λb c=>by have:=Ln.aH [b] (by simpa using c);simp[x8,this]
 refine qc n _ _ ?_ (by simp) rfl ?_
 ·intro l d
  simp only[List.mem_cons,List.not_mem_nil,or_false]at d;rcases d with rfl|rfl|rfl
  ·exact⟨e _ c.1,by simp⟩
  ·exact⟨e _ c.2.1,by simp⟩
  ·exact⟨e _ c.2.2,by simp⟩
 ·intro l d
  simp only[List.mem_cons,List.not_mem_nil,or_false]at d;rcases d with rfl|rfl|rfl
  ·exact f.1
  ·exact f.2.1
  ·exact f.2.2
open Tp in
theorem fo (n:Nat):yd n ⟨0,⟨2,1,[]⟩,[],[]⟩:=sZ n _ ⟨by decide,by decide⟩
open Tp in
theorem fm (n k:Nat) (b:k < n):yd n ⟨1,Sc.null,[],[k]⟩:=ea n [k] (λj a=>by rw[List.mem_singleton]at a;omega) (by simp)
open Tp in
theorem wM:At ⟨t1.toArray⟩ [⟨1,0,[98,58,32,91,49,93]⟩,⟨2,0,[97,58,32,38,120,32,91,49,93]⟩,⟨3,0,[99,58,32,42,120]⟩] [⟨1,0,[⟨1,[98],0⟩,⟨6,[],1⟩,⟨8,[],3⟩,⟨1,[49],4⟩,⟨9,[],5⟩]⟩,⟨2,0,[⟨1,[97],0⟩,⟨6,[],1⟩,⟨3,[120],3⟩,⟨8,[],6⟩,⟨1,[49],7⟩,⟨9,[],8⟩]⟩,⟨3,0,[⟨1,[99],0⟩,⟨6,[],1⟩,⟨4,[120],3⟩]⟩] ⟨2,[],Sc.null,[⟨3,0,[98]⟩,⟨3,0,[97]⟩,⟨3,0,[99]⟩],[⟨1,[],Sc.null,[],[⟨0,[],⟨2,1,[]⟩,[],[]⟩]⟩,⟨1,[120],Sc.null,[],[⟨0,[],⟨2,1,[]⟩,[],[]⟩]⟩,⟨3,[120],Sc.null,[],[]⟩]⟩ [⟨2,Sc.null,[⟨3,0,[98]⟩,⟨3,0,[97]⟩,⟨3,0,[99]⟩],[1,3,3]⟩,⟨1,Sc.null,[],[2]⟩,⟨0,⟨2,1,[]⟩,[],[]⟩,⟨1,Sc.null,[],[4]⟩,⟨0,⟨2,1,[]⟩,[],[]⟩]:=by
 have c:∀d:UInt8,d.toNat < 128->Ln.right [d]=true:=λd g=>Ln.aH _ (by simpa using g);have f:=c 97 (by decide);have i:=c 98 (by decide);have j:=c 99 (by decide);refine⟨by decide,by show (Ln.split t1).2.2=0;rw[nr],by show (Ln.split t1).1=_;rw[nr],by decide,by decide,?_,by kernel_rfl,?_,by kernel_rfl,?_,by kernel_rfl,by decide,by decide⟩
 ·intro x a
  simp only[List.mem_cons,List.not_mem_nil,or_false]at a;rcases a with rfl|rfl|rfl;all_goals exact⟨by decide,Ln.aH _ (by decide),by decide⟩
 ·intro x a
  simp only[List.mem_cons,List.not_mem_nil,or_false]at a;rcases a with rfl|rfl|rfl;all_goals refine⟨λt b=>?_,by decide⟩
  all_goals simp only[List.mem_cons,List.not_mem_nil,or_false]at b
  case inl=>rcases b with rfl|rfl|rfl|rfl|rfl<;>exact⟨by decide,λe=>absurd e (by decide)⟩
  case inr.inl=>rcases b with rfl|rfl|rfl|rfl|rfl|rfl<;>exact⟨by decide,λe=>absurd e (by decide)⟩
  case inr.inr=>rcases b with rfl|rfl|rfl<;>exact⟨by decide,λe=>by first|exact absurd e (by decide)|assumption⟩
 ·simp[zb,yE,x8,Sc.null,f,i,j]
open Tp in
theorem wL:At ⟨t2.toArray⟩ [⟨1,0,t2⟩] [⟨1,0,[⟨10,[],0⟩,⟨1,[99],1⟩,⟨6,[],2⟩,⟨8,[],4⟩,⟨1,[49],5⟩,⟨9,[],6⟩,⟨7,[],7⟩,⟨2,[97],9⟩,⟨6,[],12⟩,⟨8,[],14⟩,⟨1,[49],15⟩,⟨9,[],16⟩,⟨7,[],17⟩,⟨2,[98],19⟩,⟨6,[],22⟩,⟨8,[],24⟩,⟨1,[49],25⟩,⟨9,[],26⟩,⟨11,[],27⟩]⟩] ⟨2,[],Sc.null,[⟨3,0,[99]⟩,⟨3,0,[97]⟩,⟨3,0,[98]⟩],[⟨1,[],Sc.null,[],[⟨0,[],⟨2,1,[]⟩,[],[]⟩]⟩,⟨1,[],Sc.null,[],[⟨0,[],⟨2,1,[]⟩,[],[]⟩]⟩,⟨1,[],Sc.null,[],[⟨0,[],⟨2,1,[]⟩,[],[]⟩]⟩]⟩ [⟨2,Sc.null,[⟨3,0,[99]⟩,⟨3,0,[97]⟩,⟨3,0,[98]⟩],[1,3,5]⟩,⟨1,Sc.null,[],[2]⟩,⟨0,⟨2,1,[]⟩,[],[]⟩,⟨1,Sc.null,[],[4]⟩,⟨0,⟨2,1,[]⟩,[],[]⟩,⟨1,Sc.null,[],[6]⟩,⟨0,⟨2,1,[]⟩,[],[]⟩]:=by
 have b:∀c:UInt8,c.toNat < 128->Ln.right [c]=true:=λc g=>Ln.aH _ (by simpa using g);have f:=b 97 (by decide);have i:=b 98 (by decide);have j:=b 99 (by decide);refine⟨by decide,by show (Ln.split t2).2.2=0;rw[nl],by show (Ln.split t2).1=_;rw[nl],by decide,by decide,?_,by kernel_rfl,?_,by kernel_rfl,?_,by kernel_rfl,by decide,by decide⟩
 ·intro x a
  simp only[List.mem_cons,List.not_mem_nil,or_false]at a;subst a;all_goals exact⟨by decide,Ln.aH _ (by decide),by decide⟩
 ·intro x a
  simp only[List.mem_cons,List.not_mem_nil,or_false]at a;subst a;all_goals refine⟨λt d=>?_,by decide⟩
  all_goals simp only[List.mem_cons,List.not_mem_nil,or_false]at d
  all_goals rcases d with rfl|rfl|rfl|rfl|rfl|rfl|rfl|rfl|rfl|rfl|rfl|rfl|rfl|rfl|rfl|rfl|rfl|rfl|rfl<;>exact⟨by decide,λe=>by first|exact absurd e (by decide)|assumption⟩
 ·simp[zb,yE,x8,Sc.null,f,i,j]
open Tp in
theorem iQ (n:Nat) (b:3<=n):∀x∈([⟨2,Sc.null,[⟨3,0,[97]⟩,⟨3,0,[98]⟩,⟨3,0,[99]⟩],[1,1,1]⟩,⟨1,Sc.null,[],[2]⟩,⟨0,⟨2,1,[]⟩,[],[]⟩]:List Nd),yd n x:=by
 intro x a;simp only[List.mem_cons,List.not_mem_nil,or_false]at a;rcases a with rfl|rfl|rfl
 ·exact lU _ _ _ _ _ _ n (by decide) (by omega)
 ·exact fm n 2 (by omega)
 ·exact fo n
open Tp in
theorem xu:QOk [⟨2,Sc.null,[⟨3,0,[98]⟩,⟨3,0,[97]⟩,⟨3,0,[99]⟩],[1,3,3]⟩,⟨1,Sc.null,[],[2]⟩,⟨0,⟨2,1,[]⟩,[],[]⟩,⟨1,Sc.null,[],[4]⟩,⟨0,⟨2,1,[]⟩,[],[]⟩] [0,1,2,1,2] [⟨2,Sc.null,[⟨3,0,[97]⟩,⟨3,0,[98]⟩,⟨3,0,[99]⟩],[1,1,1]⟩,⟨1,Sc.null,[],[2]⟩,⟨0,⟨2,1,[]⟩,[],[]⟩]:=by
 have a:whole [⟨2,Sc.null,[⟨3,0,[98]⟩,⟨3,0,[97]⟩,⟨3,0,[99]⟩],[1,3,3]⟩,⟨1,Sc.null,[],[2]⟩,⟨0,⟨2,1,[]⟩,[],[]⟩,⟨1,Sc.null,[],[4]⟩,⟨0,⟨2,1,[]⟩,[],[]⟩] [0,1,2,1,2]=[⟨2,Sc.null,[⟨3,0,[97]⟩,⟨3,0,[98]⟩,⟨3,0,[99]⟩],[1,1,1]⟩,⟨1,Sc.null,[],[2]⟩,⟨0,⟨2,1,[]⟩,[],[]⟩]:=by kernel_rfl
 refine qD _ _ _ (by decide) ?_ (by rw[a];exact iQ _ (by decide)) (by rw[a];decide) (by kernel_rfl) (by kernel_rfl) rfl (by decide) rfl (by rw[a];kernel_rfl);intro x b;simp only[List.mem_cons,List.not_mem_nil,or_false]at b;rcases b with rfl|rfl|rfl|rfl|rfl
 ·exact lU _ _ _ _ _ _ _ (by decide) (by decide)
 all_goals first|exact fo _|exact fm _ _ (by decide)
open Tp in
theorem xt:QOk [⟨2,Sc.null,[⟨3,0,[99]⟩,⟨3,0,[97]⟩,⟨3,0,[98]⟩],[1,3,5]⟩,⟨1,Sc.null,[],[2]⟩,⟨0,⟨2,1,[]⟩,[],[]⟩,⟨1,Sc.null,[],[4]⟩,⟨0,⟨2,1,[]⟩,[],[]⟩,⟨1,Sc.null,[],[6]⟩,⟨0,⟨2,1,[]⟩,[],[]⟩] [0,1,2,1,2,1,2] [⟨2,Sc.null,[⟨3,0,[97]⟩,⟨3,0,[98]⟩,⟨3,0,[99]⟩],[1,1,1]⟩,⟨1,Sc.null,[],[2]⟩,⟨0,⟨2,1,[]⟩,[],[]⟩]:=by
 have a:whole [⟨2,Sc.null,[⟨3,0,[99]⟩,⟨3,0,[97]⟩,⟨3,0,[98]⟩],[1,3,5]⟩,⟨1,Sc.null,[],[2]⟩,⟨0,⟨2,1,[]⟩,[],[]⟩,⟨1,Sc.null,[],[4]⟩,⟨0,⟨2,1,[]⟩,[],[]⟩,⟨1,Sc.null,[],[6]⟩,⟨0,⟨2,1,[]⟩,[],[]⟩] [0,1,2,1,2,1,2]=[⟨2,Sc.null,[⟨3,0,[97]⟩,⟨3,0,[98]⟩,⟨3,0,[99]⟩],[1,1,1]⟩,⟨1,Sc.null,[],[2]⟩,⟨0,⟨2,1,[]⟩,[],[]⟩]:=by kernel_rfl
 refine qD _ _ _ (by decide) ?_ (by rw[a];exact iQ _ (by decide)) (by rw[a];decide) (by kernel_rfl) (by kernel_rfl) rfl (by decide) rfl (by rw[a];kernel_rfl);intro x b;simp only[List.mem_cons,List.not_mem_nil,or_false]at b;rcases b with rfl|rfl|rfl|rfl|rfl|rfl|rfl
 ·exact lU _ _ _ _ _ _ _ (by decide) (by decide)
 all_goals first|exact fo _|exact fm _ _ (by decide)
open Tp in
theorem jN:zm [⟨2,Sc.null,[⟨3,0,[97]⟩,⟨3,0,[98]⟩,⟨3,0,[99]⟩],[1,1,1]⟩,⟨1,Sc.null,[],[2]⟩,⟨0,⟨2,1,[]⟩,[],[]⟩] outT:=by
 have g:outT=([[34,97,34,58,32,38,97,49],[32,32,45,32,49],[34,98,34,58,32,42,97,49],[34,99,34,58,32,42,97,49]]:List B).flatMap (·++[10]):=by kernel_rfl
 rw[g];refine nh _ [1,2,3] _ (uB _ [1,2,3] _ [1,0] ⟨2,Sc.null,[⟨3,0,[97]⟩,⟨3,0,[98]⟩,⟨3,0,[99]⟩],[1,1,1]⟩ 1 (by decide) (iQ _ (by decide)) (by kernel_rfl) (by kernel_rfl) (by kernel_rfl) (by decide) (by decide) rfl (by simp) (by kernel_rfl) (by kernel_rfl) ?_ (by decide) (by decide));intro x b k e p q;have d:x=⟨2,Sc.null,[⟨3,0,[97]⟩,⟨3,0,[98]⟩,⟨3,0,[99]⟩],[1,1,1]⟩:=by injection b with b;exact b.symm
 have l:k=1:=by
  have:=bj x k e;rw[d]at this
  simpa using this
 subst l;right
 intro z c j i f a;have n:z=⟨1,Sc.null,[],[2]⟩:=by injection c with c;exact c.symm
 have m:j=2:=by
  have:=bj z j i;rw[n]at this
  simpa using this
 subst m;have o:f=⟨0,⟨2,1,[]⟩,[],[]⟩:=by injection a with a;exact a.symm
 rw[o]
open Tp in
theorem py (w:World) (a:Glob w):Calls π 7 #[xR t1] w λe w'=>e=ρ (.tuple #[xR outT,V I 0])/\Below w.heap.size w w':=d7 _ _ _ _ _ _ _ _ wM xu jN w a
open Tp in
theorem px (w:World) (a:Glob w):Calls π 7 #[xR t2] w λe w'=>e=ρ (.tuple #[xR outT,V I 0])/\Below w.heap.size w w':=d7 _ _ _ _ _ _ _ _ wL xt jN w a
end
theorem ol(w:World)(n:Glob w):Calls π 5 #[] w λe w'=>e=ρ (β true)/\Below w.heap.size w w':=by
 have k:xR Tp.t1=U ⟨#[98,58,32,91,49,93,10,97,58,32,38,120,32,91,49,93,10,99,58,32,42,120,10]⟩:=rfl;have g:xR Tp.t2=U ⟨#[123,99,58,32,91,49,93,44,32,39,97,39,58,32,91,49,93,44,32,34,98,34,58,32,91,49,93,125,32,35,32,120]⟩:=rfl;have d:xR Tp.outT=U ⟨#[34,97,34,58,32,38,97,49,10,32,32,45,32,49,10,34,98,34,58,32,42,97,49,10,34,99,34,58,32,42,97,49,10]⟩:=rfl;have b:=λW (f:Glob W)=>py W f;have c:=λW (f:Glob W)=>px W f;rw[k,d]at b;rw[g,d]at c;obtain⟨l,i,j⟩:=zx3 b c n;clear b c k g d n
 go_enter func5,ntmps5
 go_wp2_with fail
 refine(l.out _ j.out).mono ?_;rintro e q ⟨rfl,o⟩;have a:=zD o;clear o l
 go_wp2_with fail
 refine(i.out _ (j.out.step a.out)).mono ?_;rintro e r ⟨rfl,m⟩;have p:=zD (a.out.trans (m.mono a.out.size));clear m i a
 go_wp2_with fail
 go_ret
 exact⟨rfl,p.out⟩
def cut20(s:ByteArray):ByteArray:=s.extract 0 (min s.size 20)
def yJ(s:ByteArray):Tp.B:=(cut20 s).data.toList
theorem iA(s:ByteArray):(cut20 s).size<=20:=by
 unfold cut20;rw[ByteArray.size_extract];omega
theorem un(s:ByteArray):(yJ s).length<=20:=by
 have:=iA s;unfold yJ;rw[Array.length_toList];exact this
def ze(a:List Tp.B):Tp.B:=a.flatMap λs=>Tp.quote s++[32,44,32]
theorem iY:∀a:List Tp.B,ze a++[93]=Tp.rowB a
 | []=>rfl
 |s::r=>by
  have:=iY r;unfold ze at this ⊢;rw[List.flatMap_cons,Tp.rowB,List.append_assoc,List.append_assoc,this];rfl
theorem xo(a:List Tp.B)(s:Tp.B):Tp.textA (a++[s])=((Tp.textA a++[32,32,45,32,32,32])++Tp.quote s)++[32,32,32,35,32,110,111,116,101,10,10]:=by
 unfold Tp.textA;rw[List.flatMap_append,List.flatMap_cons,List.flatMap_nil];simp[Tp.rowT,Tp.rowA]
theorem xm(a:List Tp.B)(s:Tp.B):ze (a++[s])=(ze a++Tp.quote s)++[32,44,32]:=by
 unfold ze;rw[List.flatMap_append,List.flatMap_cons,List.flatMap_nil];simp
theorem xl(a:List Tp.B)(s:Tp.B):Tp.wantB (a++[s])=((Tp.wantB a++[45,32])++Tp.quote s)++[10]:=by
 unfold Tp.wantB;rw[List.flatMap_append,List.flatMap_cons,List.flatMap_nil];simp
theorem dJ:∀a:List Tp.B,(∀s∈a,s.length<=20)->(ze a).length<=a.length * 85
 | [],_=>by simp[ze]
 |s::r,h=>by
  have d:=h s (by simp);have b:=dJ r λx c=>h x (by simp[c]);have e:=Tp.aD s;unfold ze at b ⊢;rw[List.flatMap_cons,zP,zP,show (s::r).length=r.length+1 from rfl,Nat.add_mul];simp only[zO,List.length_nil];omega
theorem gM:∀a:List Tp.B,(∀s∈a,s.length<=20)->(Tp.wantB a).length<=a.length * 85
 | [],_=>by simp[Tp.wantB]
 |s::r,h=>by
  have d:=h s (by simp);have b:=gM r λx c=>h x (by simp[c]);have e:=Tp.aD s;unfold Tp.wantB at b ⊢;rw[List.flatMap_cons,zP,zO,zO,zP,show (s::r).length=r.length+1 from rfl,Nat.add_mul];simp only[zO,List.length_nil];omega
theorem aZ(a d:Tp.B)(c:ByteArray)(b:xR a=U c):xR (a++d)=U (c++⟨d.toArray⟩):=by
 unfold xR at b ⊢;injection b with b;rw[<-b,cV]
theorem cU(a:Tp.B)(c:ByteArray)(b:xR a=U c):c.size=a.length:=by
 unfold xR at b;injection b with b;rw[<-b];rfl
theorem styles_law(l:List ByteArray)(cv:Option Addr)(bn cap g o:Nat){w:World}(D:Glob w)(dp:l.length=bn/\bn<=maxLen)(ca:∀x∈l,x.size<=maxLen)(c2:RA w cv g o (l.map Value.string)):
 Calls π 3 #[Y cv bn cap] w λe w'=>e=ρ (β true)/\Below w.heap.size w w':=by
 obtain⟨b1,ct⟩:=dp;obtain⟨H,dc⟩:∃H,bn=H:=⟨_,rfl⟩;rw[dc]at b1 ct ⊢;clear dc;obtain⟨G,F⟩:∃G,w.heap.size=G:=⟨_,rfl⟩;have a2:10<=G:=by rw[<-F];exact D.1
 unfold maxLen at ct;have da:=ol w D;have c1:=zD da;clear da;obtain⟨d4,dr,d6,d3⟩:=zx4 D ca c2 b1;clear ca c2 b1 D
 go_enter func3,ntmps3
 go_wp2_with fail
 refine c1.out.mono ?_;rintro e fv ⟨rfl,bb⟩;rw[F]at bb;have eg:=zD bb;clear bb c1
 go_wp2_with fail
 have D:=d4.out
 go_loopw [4,5,6,7] (λal bD dv b3 wr=>∃(t:Nat),t<=H/\t<=9/\b3=V I (t:Int)/\al=xR (Tp.textA ((l.take t).map yJ))/\bD=xR (91::ze ((l.take t).map yJ))/\dv=xR (Tp.wantB ((l.take t).map yJ))/\(∀s∈(l.take t).map yJ,s.length<=20/\Ln.right s=true)/\Below G w wr) (λ_ _ _ b3 _=>9 - (Lib.intOf b3).toNat)
 case atStart=>exact⟨0,z_ _,z_ _,rfl,rfl,rfl,rfl,λs q=>by simp at q,eg.out⟩
 case round=>
  obtain⟨t,e9,f2,rfl,rfl,rfl,rfl,d,r⟩:=hrel;by_cases ck:t < H
  ·by_cases er:t < 9
   ·obtain⟨x,bm⟩:∃x,l[t]? =W x:=⟨_,zE (by rw[d3.out];exact ck)⟩
    have eq:=dr.out x (zL bm);have bR:(l.map Value.string)[t]? =W (U x):=by rw[List.getElem?_map,bm];rfl
    obtain⟨rfl,ds,db⟩:=(d6.out.keep (by rw[F];exact r)) (λe=>by rw[e]at bR;simp at bR);have an:=db t _ bR;have ch:=D.keep r a2;have b8:(l.take (t+1)).map yJ=(l.take t).map yJ++[yJ x]:=by rw[zG,bm,List.map_append];rfl
    have cf:(t:Int) < (H:Int):=by omega
    have dn:(t:Int) < 9:=by omega
    have ft:(0:Int)<=(t:Int):=by omega
    unfold maxLen at eq;have e4:min (x.size:Int) 20=((min x.size 20:Nat):Int):=by omega
    have e6:(0:Int)<=((min x.size 20:Nat):Int):=by omega
    have fG:((min x.size 20:Nat):Int)<=(x.size:Int):=by omega
    have z:((l.take t).map yJ).length<=8:=by rw[List.length_map];have:=List.length_take_le t l;omega
    obtain⟨a,m⟩:∃E,(l.take t).map yJ=E:=⟨_,rfl⟩;rw[m]at d z b8 ⊢;obtain⟨C,i⟩:∃X,xR (Tp.textA a)=U X:=⟨_,rfl⟩;obtain⟨p,c⟩:∃X,xR (91::ze a)=U X:=⟨_,rfl⟩;obtain⟨A,b⟩:∃X,xR (Tp.wantB a)=U X:=⟨_,rfl⟩;have c9:=Tp.cT a (λs q=>(d s q).1);have ad:=dJ a (λs q=>(d s q).1);have c3:=gM a (λs q=>(d s q).1);have cb:=cU _ _ i;have y:=cU _ _ c;have cl:=cU _ _ b;rw[zO]at y;have b6:=un x;have cc:=iA x;obtain⟨j,bs,bk,d5⟩:=zx4 r ch b8 d;clear r ch b8 d m bm bR db ds;cases a9:Ln.right (yJ x) with
    |false=>
     have L:=qC (cut20 x) (by omega) a9;unfold cut20 at L;rw[i,c,b];have ao:=zD L;clear L i c b c9 ad c3 cb y cl a9 b6 cc
     go_upto_region 8 with (fail)
     refine wp_region_noPanic ?_;refine ar (λk=>k.cell? ⟨g,o+t,O⟩=W (U x)) [] (by kernel_rfl) ?_;refine ay 20 (by kernel_rfl) (λ_ _ _ _ f=>f) (show (λk=>k.cell? ⟨g,o+t,O⟩=W (U x)) wr.drew from an) 6 [0,1,2,3,4,5,6,7,8,9,10] _ _ (by kernel_rfl) ?_;iterate 11 (refine ax (v:=?_) ?_ ?_;rotate_left;·(intro b4 ac;(try dsimp only at ac);go_simp;try with_reducible rfl);(try go_frame))
     refine xT.done ?_;try dsimp only
     refine aq [11] ?_;refine aj rfl (λK a6=>?_) xQ.nil
     go_simp
     refine(ao.out wr.drew (bs.out.far ((ξ xO wr).drew) (λ_ _ e=>e))).mono ?_;rintro e be ⟨rfl,R⟩;have S:Far xO wr be:=((ξ _ wr).drew).below R;have P:=S.at an id;have u:=zD (j.out.trans (S.to_below (by have:=j.out.size;omega) (λ_ _ e=>e.elim)));refine a6.out _ _ (λ_=>P) ?_;clear a6 K R S
     (try go_frame)
     refine ay 20 (by kernel_rfl) (λ_ _ _ _ f=>f) P 0 [12,13,14,15,16] _ _ (by kernel_rfl) ?_;iterate 5 (refine ax (v:=?_) ?_ ?_;rotate_left;·(intro b4 ac;(try dsimp only at ac);go_simp;try with_reducible rfl);(try go_frame))
     refine xT.done ?_;try dsimp only
     refine aP (by kernel_rfl) (NoPanic.normal ?_) _;clear an P ao bs j
     go_wp2_with fail
     go_ret
     exact⟨rfl,by first|exact u.out|(rw[F];exact u.out)⟩
    |true=>
     have L:=j3 (cut20 x) (by omega) a9;have en:=Tp.aD (yJ x);obtain⟨n,bx⟩:∃X,xR (Tp.quote (yJ x))=U X:=⟨_,rfl⟩;have ei:=cU _ _ bx;have b5:(⟨(Tp.quote (cut20 x).data.toList).toArray⟩:ByteArray)=n:=by unfold xR at bx;injection bx
     have b0:∀(b2:ByteArray),b2++n=b2++⟨(Tp.quote (yJ x)).toArray⟩:=λb2=>by rw[<-b5];rfl
     rw[b5]at L;unfold cut20 at L;have c5:xR (Tp.textA (a++[yJ x]))=U (C++(⟨#[32,32,45,32,32,32]⟩:ByteArray)++n++(⟨#[32,32,32,35,32,110,111,116,101,10,10]⟩:ByteArray)):=by
      rw[xo,b0];exact aZ _ _ _ (aZ _ _ _ (aZ _ _ _ i))
     have cm:xR (91::ze (a++[yJ x]))=U (p++n++(⟨#[32,44,32]⟩:ByteArray)):=by
      rw[xm,b0];exact aZ _ _ _ (aZ (91::ze a) _ _ c)
     have co:xR (Tp.wantB (a++[yJ x]))=U (A++(⟨#[45,32]⟩:ByteArray)++n++(⟨#[10]⟩:ByteArray)):=by
      rw[xl,b0];exact aZ _ _ _ (aZ _ _ _ (aZ _ _ _ b))
     have bw:(⟨#[32,32,45,32,32,32]⟩:ByteArray).size=6:=rfl;have c6:(⟨#[32,32,32,35,32,110,111,116,101,10,10]⟩:ByteArray).size=11:=rfl;have c4:(⟨#[32,44,32]⟩:ByteArray).size=3:=rfl;have al:(⟨#[45,32]⟩:ByteArray).size=2:=rfl;have bD:(⟨#[10]⟩:ByteArray).size=1:=rfl;have e8:(C++(⟨#[32,32,45,32,32,32]⟩:ByteArray)).size<=maxLen:=by rw[zX,bw];unfold maxLen;omega
     have fs:(C++(⟨#[32,32,45,32,32,32]⟩:ByteArray)++n).size<=maxLen:=by rw[zX,zX,bw];unfold maxLen;omega
     have fz:(C++(⟨#[32,32,45,32,32,32]⟩:ByteArray)++n++(⟨#[32,32,32,35,32,110,111,116,101,10,10]⟩:ByteArray)).size<=maxLen:=by rw[zX,zX,zX,bw,c6];unfold maxLen;omega
     have fn:¬9223372036854775807 < C.size+6:=by omega
     have fl:¬9223372036854775807 < C.size+6+n.size:=by omega
     have f1:¬9223372036854775807 < C.size+6+n.size+11:=by omega
     have e1:(p++n).size<=maxLen:=by rw[zX];unfold maxLen;omega
     have fR:(p++n++(⟨#[32,44,32]⟩:ByteArray)).size<=maxLen:=by rw[zX,zX,c4];unfold maxLen;omega
     have ex:¬9223372036854775807 < p.size+n.size:=by omega
     have f0:¬9223372036854775807 < p.size+n.size+3:=by omega
     have e5:(A++(⟨#[45,32]⟩:ByteArray)).size<=maxLen:=by rw[zX,al];unfold maxLen;omega
     have es:(A++(⟨#[45,32]⟩:ByteArray)++n).size<=maxLen:=by rw[zX,zX,al];unfold maxLen;omega
     have e2:(A++(⟨#[45,32]⟩:ByteArray)++n++(⟨#[10]⟩:ByteArray)).size<=maxLen:=by rw[zX,zX,zX,al,bD];unfold maxLen;omega
     have e7:¬9223372036854775807 < A.size+2:=by omega
     have fr:¬9223372036854775807 < A.size+2+n.size:=by omega
     have e0:¬9223372036854775807 < A.size+2+n.size+1:=by omega
     rw[i,c,b];have ao:=zD L;have b9:=zD (θ c5 (θ cm co));have c0:∀s∈a++[yJ x],s.length<=20/\Ln.right s=true:=λs q=>by
      rcases List.mem_append.1 q with f|f
      ·exact d5.out s f
      ·rw[List.mem_singleton]at f
       subst f;exact⟨b6,a9⟩
     have df:=zD c0;clear c0 L i c b bx b5 b0 c5 cm co c9 ad c3 cb y cl ei en a9 b6 cc bw c6 c4 al bD
     go_upto_region 8 with (fail)
     refine wp_region_noPanic ?_;refine ar (λk=>k.cell? ⟨g,o+t,O⟩=W (U x)) [] (by kernel_rfl) ?_;refine ay 20 (by kernel_rfl) (λ_ _ _ _ f=>f) (show (λk=>k.cell? ⟨g,o+t,O⟩=W (U x)) wr.drew from an) 6 [0,1,2,3,4,5,6,7,8,9,10] _ _ (by kernel_rfl) ?_;iterate 11 (refine ax (v:=?_) ?_ ?_;rotate_left;·(intro b4 ac;(try dsimp only at ac);go_simp;try with_reducible rfl);(try go_frame))
     refine xT.done ?_;try dsimp only
     refine aq [11] ?_;refine aj rfl (λK a6=>?_) xQ.nil
     go_simp
     refine(ao.out wr.drew (bs.out.far ((ξ xO wr).drew) (λ_ _ e=>e))).mono ?_;rintro e be ⟨rfl,R⟩;have S:Far xO wr be:=((ξ _ wr).drew).below R;have P:=S.at an id;have u:=zD (j.out.trans (S.to_below (by have:=j.out.size;omega) (λ_ _ e=>e.elim)));refine a6.out _ _ (λ_=>P) ?_;clear a6 K R S
     (try go_frame)
     refine ay 20 (by kernel_rfl) (λ_ _ _ _ f=>f) P 0 [12,13,14,15,16] _ _ (by kernel_rfl) ?_;iterate 5 (refine ax (v:=?_) ?_ ?_;rotate_left;·(intro b4 ac;(try dsimp only at ac);go_simp;try with_reducible rfl);(try go_frame))
     refine xT.done ?_;try dsimp only
     refine aP (by kernel_rfl) (NoPanic.normal ?_) _;clear an P ao bs j
     go_wp2_with fail
     go_roundw
     case rel=>exact⟨t+1,ck,er,by go_num,by rw[bk.out];exact b9.out.1.symm,by rw[bk.out];exact b9.out.2.1.symm,by rw[bk.out];exact b9.out.2.2.symm,by rw[bk.out];exact df.out,u.out⟩
     case measure=>simp[Lib.intOf];omega
   ·obtain rfl:t=9:=by omega
    have cf:((9:Nat):Int) < (H:Int):=by omega
    have dn:(9:Int) < (H:Int):=by omega
    have e3:¬((9:Nat):Int) < 9:=by omega
    have z:((l.take 9).map yJ).length<=9:=by rw[List.length_map];have:=List.length_take_le 9 l;omega
    obtain⟨a,m⟩:∃E,(l.take 9).map yJ=E:=⟨_,rfl⟩;rw[m]at d z ⊢;clear m;cases a with
    |nil=>
     have ba:xR (Tp.wantB [])=U ⟨#[]⟩:=rfl;obtain⟨C,i⟩:∃X,xR (Tp.textA [])=U X:=⟨_,rfl⟩;obtain⟨p,c⟩:∃X,xR (91::ze [])=U X:=⟨_,rfl⟩;rw[ba,i,c];clear ba i c d;have j:=zD r;clear r
     go_wp2_with fail
     go_ret
     exact⟨rfl,by first|exact j.out|(rw[F];exact j.out)⟩
    |cons s0 sr=>
     obtain⟨a,m⟩:∃E,s0::sr=E:=⟨_,rfl⟩;have M:a≠[]:=by rw[<-m];simp
     have a1:(Tp.wantB a).isEmpty=false:=by rw[<-m];rfl
     rw[m]at d z ⊢;clear m;have N:=λk (f:Below G w k)=>iC a M z d k (D.keep f a2);have T:=λk (f:Below G w k)=>iB a M z d k (D.keep f a2);have ad:=dJ a (λs q=>(d s q).1);obtain⟨C,i⟩:∃X,xR (Tp.textA a)=U X:=⟨_,rfl⟩;obtain⟨p,c⟩:∃X,xR (91::ze a)=U X:=⟨_,rfl⟩;obtain⟨A,b⟩:∃X,xR (Tp.wantB a)=U X:=⟨_,rfl⟩;have ab:=aZ _ [93] _ c;rw[List.cons_append,iY]at ab;have y:=cU _ _ c;rw[zO]at y;rw[i,b]at N;rw[ab,b]at T;have d2:A.toList.isEmpty=false:=by
      unfold xR at b;injection b with b;rw[<-b,cZ];exact a1
     rw[i,c,b];have bb:(p++(⟨#[93]⟩:ByteArray)).size<=maxLen:=by rw[zX,y];unfold maxLen;show _+1<=_;omega
     have R:¬9223372036854775807 < p.size+1:=by omega
     have d1:p.size+1<=maxLen:=by unfold maxLen;omega
     obtain⟨a3,a0,j⟩:=zx3 N T r;clear N T r i c b ab a1 d y ad M
     go_wp2_with fail
     refine(a3.out _ j.out).mono ?_;rintro e be ⟨rfl,av⟩;have u:=zD (j.out.trans (av.mono (by have:=j.out.size;omega)));clear av a3
     go_wp2_with fail
     refine(a0.out _ u.out).mono ?_;rintro e d0 ⟨rfl,a4⟩;have a5:=zD (u.out.trans (a4.mono (by have:=u.out.size;omega)));clear a4 a0
     go_wp2_with fail
     go_ret
     exact⟨rfl,by first|exact a5.out|(rw[F];exact a5.out)⟩
  ·have cf:¬(t:Int) < (H:Int):=by omega
   have z:((l.take t).map yJ).length<=9:=by rw[List.length_map];have:=List.length_take_le t l;omega
   obtain⟨a,m⟩:∃E,(l.take t).map yJ=E:=⟨_,rfl⟩;rw[m]at d z ⊢;clear m;cases a with
   |nil=>
    have ba:xR (Tp.wantB [])=U ⟨#[]⟩:=rfl;obtain⟨C,i⟩:∃X,xR (Tp.textA [])=U X:=⟨_,rfl⟩;obtain⟨p,c⟩:∃X,xR (91::ze [])=U X:=⟨_,rfl⟩;rw[ba,i,c];clear ba i c d;have j:=zD r;clear r
    go_wp2_with fail
    go_ret
    exact⟨rfl,by first|exact j.out|(rw[F];exact j.out)⟩
   |cons s0 sr=>
    obtain⟨a,m⟩:∃E,s0::sr=E:=⟨_,rfl⟩;have M:a≠[]:=by rw[<-m];simp
    have a1:(Tp.wantB a).isEmpty=false:=by rw[<-m];rfl
    rw[m]at d z ⊢;clear m;have N:=λk (f:Below G w k)=>iC a M z d k (D.keep f a2);have T:=λk (f:Below G w k)=>iB a M z d k (D.keep f a2);have ad:=dJ a (λs q=>(d s q).1);obtain⟨C,i⟩:∃X,xR (Tp.textA a)=U X:=⟨_,rfl⟩;obtain⟨p,c⟩:∃X,xR (91::ze a)=U X:=⟨_,rfl⟩;obtain⟨A,b⟩:∃X,xR (Tp.wantB a)=U X:=⟨_,rfl⟩;have ab:=aZ _ [93] _ c;rw[List.cons_append,iY]at ab;have y:=cU _ _ c;rw[zO]at y;rw[i,b]at N;rw[ab,b]at T;have d2:A.toList.isEmpty=false:=by
     unfold xR at b;injection b with b;rw[<-b,cZ];exact a1
    rw[i,c,b];have bb:(p++(⟨#[93]⟩:ByteArray)).size<=maxLen:=by rw[zX,y];unfold maxLen;show _+1<=_;omega
    have R:¬9223372036854775807 < p.size+1:=by omega
    have d1:p.size+1<=maxLen:=by unfold maxLen;omega
    obtain⟨a3,a0,j⟩:=zx3 N T r;clear N T r i c b ab a1 d y ad M
    go_wp2_with fail
    refine(a3.out _ j.out).mono ?_;rintro e be ⟨rfl,av⟩;have u:=zD (j.out.trans (av.mono (by have:=j.out.size;omega)));clear av a3
    go_wp2_with fail
    refine(a0.out _ u.out).mono ?_;rintro e d0 ⟨rfl,a4⟩;have a5:=zD (u.out.trans (a4.mono (by have:=u.out.size;omega)));clear a4 a0
    go_wp2_with fail
    go_ret
    exact⟨rfl,by first|exact a5.out|(rw[F];exact a5.out)⟩
end Go.Proofs.YtbikgdhbiebhcaaGreatDoor
