/- Part 14. -/
import Derived.Test.YtbikgdhbiebhcaaGreatDoorV13
import Derived.Stop.Asserts
import Derived.RowKitTokens
set_option linter.unusedVariables false
set_option linter.unusedSimpArgs false
set_option maxRecDepth 100000
set_option maxHeartbeats 2000000
open Go.Value renaming int -> V, string -> U, slice -> Y, pointer -> Z, func -> φ, agg -> γ, bool -> β
open Go.IntKind renaming i64 -> I
open Option renaming some -> W, none -> O
open Go.Obj renaming cells -> J
open Go.Ending renaming returned -> ρ
open Go.Proofs.Tryz renaming prog -> π
open Nat renaming le_refl -> η
open Go.RowKit.Below renaming refl -> ζ
namespace Go.Proofs.YtbikgdhbiebhcaaGreatDoor
open Go.RowKit Tryz
section
open Tp in
theorem qc (n:Nat) (ks:List Sc) (js:List Nat) (hk:∀y∈ks,x8 y=true/\y.s.length<=100) (hl:ks.length < 20) (hj:ks.length=js.length) (hn:∀k∈js,k < n):yd n ⟨2,Sc.null,ks,js⟩ where
 sc:=jX
 keys:=hk
 kl:=hl
 kk:=λ_=>hj
 k0:=λe=>by simp at e
 kr:=by simp
 kid:=hn
 kidl:=by show js.length<=_;omega
open Tp in
theorem sZ (n:Nat) (x:Sc) (h:x8 x=true/\x.s.length<=100):yd n ⟨0,x,[],[]⟩ where
 sc:=h
 keys:=λy hy=>by simp at hy
 kl:=by simp
 kk:=λe=>by simp at e
 k0:=λ_=>rfl
 kr:=by simp
 kid:=λk hk=>by simp at hk
 kidl:=by simp
open Tp in
theorem lU (a g b:UInt8) (i j k n:Nat) (c:a.toNat < 128/\g.toNat < 128/\b.toNat < 128) (f:i < n/\j < n/\k < n):yd n ⟨2,Sc.null,[⟨3,0,[a]⟩,⟨3,0,[g]⟩,⟨3,0,[b]⟩],[i,j,k]⟩:=by
 have e:∀b:UInt8,b.toNat < 128->x8 ⟨3,0,[b]⟩=true:=λb c=>by have:=Ln.aH [b] (by simpa using c);simp[x8,this]
 refine qc n _ _ ?_ (by simp) rfl ?_
 ·intro l d
  simp only[List.mem_cons,List.not_mem_nil,or_false]at d;rcases d with rfl|rfl|rfl
  ·exact⟨e _ c.1,by simp⟩
  ·exact⟨e _ c.2.1,by simp⟩
  ·exact⟨e _ c.2.2,by simp⟩
 ·intro l d
  simp only[List.mem_cons,List.not_mem_nil,or_false]at d;rcases d with rfl|rfl|rfl
  ·exact f.1
  ·exact f.2.1
  ·exact f.2.2
open Tp in
theorem fo (n:Nat):yd n ⟨0,⟨2,1,[]⟩,[],[]⟩:=sZ n _ ⟨by decide,by decide⟩
open Tp in
theorem fm (n k:Nat) (b:k < n):yd n ⟨1,Sc.null,[],[k]⟩:=ea n [k] (λj a=>by rw[List.mem_singleton]at a;omega) (by simp)
open Tp in
theorem wM:At ⟨t1.toArray⟩ [⟨1,0,[98,58,32,91,49,93]⟩,⟨2,0,[97,58,32,38,120,32,91,49,93]⟩,⟨3,0,[99,58,32,42,120]⟩] [⟨1,0,[⟨1,[98],0⟩,⟨6,[],1⟩,⟨8,[],3⟩,⟨1,[49],4⟩,⟨9,[],5⟩]⟩,⟨2,0,[⟨1,[97],0⟩,⟨6,[],1⟩,⟨3,[120],3⟩,⟨8,[],6⟩,⟨1,[49],7⟩,⟨9,[],8⟩]⟩,⟨3,0,[⟨1,[99],0⟩,⟨6,[],1⟩,⟨4,[120],3⟩]⟩] ⟨2,[],Sc.null,[⟨3,0,[98]⟩,⟨3,0,[97]⟩,⟨3,0,[99]⟩],[⟨1,[],Sc.null,[],[⟨0,[],⟨2,1,[]⟩,[],[]⟩]⟩,⟨1,[120],Sc.null,[],[⟨0,[],⟨2,1,[]⟩,[],[]⟩]⟩,⟨3,[120],Sc.null,[],[]⟩]⟩ [⟨2,Sc.null,[⟨3,0,[98]⟩,⟨3,0,[97]⟩,⟨3,0,[99]⟩],[1,3,3]⟩,⟨1,Sc.null,[],[2]⟩,⟨0,⟨2,1,[]⟩,[],[]⟩,⟨1,Sc.null,[],[4]⟩,⟨0,⟨2,1,[]⟩,[],[]⟩]:=by
 have c:∀d:UInt8,d.toNat < 128->Ln.right [d]=true:=λd g=>Ln.aH _ (by simpa using g);have f:=c 97 (by decide);have i:=c 98 (by decide);have j:=c 99 (by decide);refine⟨by decide,by show (Ln.split t1).2.2=0;rw[nr],by show (Ln.split t1).1=_;rw[nr],by decide,by decide,?_,by kernel_rfl,?_,by kernel_rfl,?_,by kernel_rfl,by decide,by decide⟩
 ·intro x a
  simp only[List.mem_cons,List.not_mem_nil,or_false]at a;rcases a with rfl|rfl|rfl;all_goals exact⟨by decide,Ln.aH _ (by decide),by decide⟩
 ·intro x a
  simp only[List.mem_cons,List.not_mem_nil,or_false]at a;rcases a with rfl|rfl|rfl;all_goals refine⟨λt b=>?_,by decide⟩
  all_goals simp only[List.mem_cons,List.not_mem_nil,or_false]at b
  case inl=>rcases b with rfl|rfl|rfl|rfl|rfl<;>exact⟨by decide,λe=>absurd e (by decide)⟩
  case inr.inl=>rcases b with rfl|rfl|rfl|rfl|rfl|rfl<;>exact⟨by decide,λe=>absurd e (by decide)⟩
  case inr.inr=>rcases b with rfl|rfl|rfl<;>exact⟨by decide,λe=>by first|exact absurd e (by decide)|assumption⟩
 ·simp[zb,yE,x8,Sc.null,f,i,j]
open Tp in
theorem wL:At ⟨t2.toArray⟩ [⟨1,0,t2⟩] [⟨1,0,[⟨10,[],0⟩,⟨1,[99],1⟩,⟨6,[],2⟩,⟨8,[],4⟩,⟨1,[49],5⟩,⟨9,[],6⟩,⟨7,[],7⟩,⟨2,[97],9⟩,⟨6,[],12⟩,⟨8,[],14⟩,⟨1,[49],15⟩,⟨9,[],16⟩,⟨7,[],17⟩,⟨2,[98],19⟩,⟨6,[],22⟩,⟨8,[],24⟩,⟨1,[49],25⟩,⟨9,[],26⟩,⟨11,[],27⟩]⟩] ⟨2,[],Sc.null,[⟨3,0,[99]⟩,⟨3,0,[97]⟩,⟨3,0,[98]⟩],[⟨1,[],Sc.null,[],[⟨0,[],⟨2,1,[]⟩,[],[]⟩]⟩,⟨1,[],Sc.null,[],[⟨0,[],⟨2,1,[]⟩,[],[]⟩]⟩,⟨1,[],Sc.null,[],[⟨0,[],⟨2,1,[]⟩,[],[]⟩]⟩]⟩ [⟨2,Sc.null,[⟨3,0,[99]⟩,⟨3,0,[97]⟩,⟨3,0,[98]⟩],[1,3,5]⟩,⟨1,Sc.null,[],[2]⟩,⟨0,⟨2,1,[]⟩,[],[]⟩,⟨1,Sc.null,[],[4]⟩,⟨0,⟨2,1,[]⟩,[],[]⟩,⟨1,Sc.null,[],[6]⟩,⟨0,⟨2,1,[]⟩,[],[]⟩]:=by
 have b:∀c:UInt8,c.toNat < 128->Ln.right [c]=true:=λc g=>Ln.aH _ (by simpa using g);have f:=b 97 (by decide);have i:=b 98 (by decide);have j:=b 99 (by decide);refine⟨by decide,by show (Ln.split t2).2.2=0;rw[nl],by show (Ln.split t2).1=_;rw[nl],by decide,by decide,?_,by kernel_rfl,?_,by kernel_rfl,?_,by kernel_rfl,by decide,by decide⟩
 ·intro x a
  simp only[List.mem_cons,List.not_mem_nil,or_false]at a;subst a;all_goals exact⟨by decide,Ln.aH _ (by decide),by decide⟩
 ·intro x a
  simp only[List.mem_cons,List.not_mem_nil,or_false]at a;subst a;all_goals refine⟨λt d=>?_,by decide⟩
  all_goals simp only[List.mem_cons,List.not_mem_nil,or_false]at d
  all_goals rcases d with rfl|rfl|rfl|rfl|rfl|rfl|rfl|rfl|rfl|rfl|rfl|rfl|rfl|rfl|rfl|rfl|rfl|rfl|rfl<;>exact⟨by decide,λe=>by first|exact absurd e (by decide)|assumption⟩
 ·simp[zb,yE,x8,Sc.null,f,i,j]
open Tp in
theorem iQ (n:Nat) (b:3<=n):∀x∈([⟨2,Sc.null,[⟨3,0,[97]⟩,⟨3,0,[98]⟩,⟨3,0,[99]⟩],[1,1,1]⟩,⟨1,Sc.null,[],[2]⟩,⟨0,⟨2,1,[]⟩,[],[]⟩]:List Nd),yd n x:=by
 intro x a;simp only[List.mem_cons,List.not_mem_nil,or_false]at a;rcases a with rfl|rfl|rfl
 ·exact lU _ _ _ _ _ _ n (by decide) (by omega)
 ·exact fm n 2 (by omega)
 ·exact fo n
open Tp in
theorem xu:QOk [⟨2,Sc.null,[⟨3,0,[98]⟩,⟨3,0,[97]⟩,⟨3,0,[99]⟩],[1,3,3]⟩,⟨1,Sc.null,[],[2]⟩,⟨0,⟨2,1,[]⟩,[],[]⟩,⟨1,Sc.null,[],[4]⟩,⟨0,⟨2,1,[]⟩,[],[]⟩] [0,1,2,1,2] [⟨2,Sc.null,[⟨3,0,[97]⟩,⟨3,0,[98]⟩,⟨3,0,[99]⟩],[1,1,1]⟩,⟨1,Sc.null,[],[2]⟩,⟨0,⟨2,1,[]⟩,[],[]⟩]:=by
 have a:whole [⟨2,Sc.null,[⟨3,0,[98]⟩,⟨3,0,[97]⟩,⟨3,0,[99]⟩],[1,3,3]⟩,⟨1,Sc.null,[],[2]⟩,⟨0,⟨2,1,[]⟩,[],[]⟩,⟨1,Sc.null,[],[4]⟩,⟨0,⟨2,1,[]⟩,[],[]⟩] [0,1,2,1,2]=[⟨2,Sc.null,[⟨3,0,[97]⟩,⟨3,0,[98]⟩,⟨3,0,[99]⟩],[1,1,1]⟩,⟨1,Sc.null,[],[2]⟩,⟨0,⟨2,1,[]⟩,[],[]⟩]:=by kernel_rfl
 refine qD _ _ _ (by decide) ?_ (by rw[a];exact iQ _ (by decide)) (by rw[a];decide) (by kernel_rfl) (by kernel_rfl) rfl (by decide) rfl (by rw[a];kernel_rfl);intro x b;simp only[List.mem_cons,List.not_mem_nil,or_false]at b;rcases b with rfl|rfl|rfl|rfl|rfl
 ·exact lU _ _ _ _ _ _ _ (by decide) (by decide)
 all_goals first|exact fo _|exact fm _ _ (by decide)
open Tp in
theorem xt:QOk [⟨2,Sc.null,[⟨3,0,[99]⟩,⟨3,0,[97]⟩,⟨3,0,[98]⟩],[1,3,5]⟩,⟨1,Sc.null,[],[2]⟩,⟨0,⟨2,1,[]⟩,[],[]⟩,⟨1,Sc.null,[],[4]⟩,⟨0,⟨2,1,[]⟩,[],[]⟩,⟨1,Sc.null,[],[6]⟩,⟨0,⟨2,1,[]⟩,[],[]⟩] [0,1,2,1,2,1,2] [⟨2,Sc.null,[⟨3,0,[97]⟩,⟨3,0,[98]⟩,⟨3,0,[99]⟩],[1,1,1]⟩,⟨1,Sc.null,[],[2]⟩,⟨0,⟨2,1,[]⟩,[],[]⟩]:=by
 have a:whole [⟨2,Sc.null,[⟨3,0,[99]⟩,⟨3,0,[97]⟩,⟨3,0,[98]⟩],[1,3,5]⟩,⟨1,Sc.null,[],[2]⟩,⟨0,⟨2,1,[]⟩,[],[]⟩,⟨1,Sc.null,[],[4]⟩,⟨0,⟨2,1,[]⟩,[],[]⟩,⟨1,Sc.null,[],[6]⟩,⟨0,⟨2,1,[]⟩,[],[]⟩] [0,1,2,1,2,1,2]=[⟨2,Sc.null,[⟨3,0,[97]⟩,⟨3,0,[98]⟩,⟨3,0,[99]⟩],[1,1,1]⟩,⟨1,Sc.null,[],[2]⟩,⟨0,⟨2,1,[]⟩,[],[]⟩]:=by kernel_rfl
 refine qD _ _ _ (by decide) ?_ (by rw[a];exact iQ _ (by decide)) (by rw[a];decide) (by kernel_rfl) (by kernel_rfl) rfl (by decide) rfl (by rw[a];kernel_rfl);intro x b;simp only[List.mem_cons,List.not_mem_nil,or_false]at b;rcases b with rfl|rfl|rfl|rfl|rfl|rfl|rfl
 ·exact lU _ _ _ _ _ _ _ (by decide) (by decide)
 all_goals first|exact fo _|exact fm _ _ (by decide)
open Tp in
theorem jN:zm [⟨2,Sc.null,[⟨3,0,[97]⟩,⟨3,0,[98]⟩,⟨3,0,[99]⟩],[1,1,1]⟩,⟨1,Sc.null,[],[2]⟩,⟨0,⟨2,1,[]⟩,[],[]⟩] outT:=by
 have g:outT=([[34,97,34,58,32,38,97,49],[32,32,45,32,49],[34,98,34,58,32,42,97,49],[34,99,34,58,32,42,97,49]]:List B).flatMap (·++[10]):=by kernel_rfl
 rw[g];refine nh _ [1,2,3] _ (uB _ [1,2,3] _ [1,0] ⟨2,Sc.null,[⟨3,0,[97]⟩,⟨3,0,[98]⟩,⟨3,0,[99]⟩],[1,1,1]⟩ 1 (by decide) (iQ _ (by decide)) (by kernel_rfl) (by kernel_rfl) (by kernel_rfl) (by decide) (by decide) rfl (by simp) (by kernel_rfl) (by kernel_rfl) ?_ (by decide) (by decide));intro x b k e p q;have d:x=⟨2,Sc.null,[⟨3,0,[97]⟩,⟨3,0,[98]⟩,⟨3,0,[99]⟩],[1,1,1]⟩:=by injection b with b;exact b.symm
 have l:k=1:=by
  have:=bj x k e;rw[d]at this
  simpa using this
 subst l;right
 intro z c j i f a;have n:z=⟨1,Sc.null,[],[2]⟩:=by injection c with c;exact c.symm
 have m:j=2:=by
  have:=bj z j i;rw[n]at this
  simpa using this
 subst m;have o:f=⟨0,⟨2,1,[]⟩,[],[]⟩:=by injection a with a;exact a.symm
 rw[o]
open Tp in
theorem py (w:World) (a:Glob w):Calls π 7 #[xR t1] w λe w'=>e=ρ (.tuple #[xR outT,V I 0])/\Below w.heap.size w w':=d7 _ _ _ _ _ _ _ _ wM xu jN w a
open Tp in
theorem px (w:World) (a:Glob w):Calls π 7 #[xR t2] w λe w'=>e=ρ (.tuple #[xR outT,V I 0])/\Below w.heap.size w w':=d7 _ _ _ _ _ _ _ _ wL xt jN w a
end
theorem ol(w:World)(n:Glob w):Calls π 5 #[] w λe w'=>e=ρ (β true)/\Below w.heap.size w w':=by
 have k:xR Tp.t1=U ⟨#[98,58,32,91,49,93,10,97,58,32,38,120,32,91,49,93,10,99,58,32,42,120,10]⟩:=rfl;have g:xR Tp.t2=U ⟨#[123,99,58,32,91,49,93,44,32,39,97,39,58,32,91,49,93,44,32,34,98,34,58,32,91,49,93,125,32,35,32,120]⟩:=rfl;have d:xR Tp.outT=U ⟨#[34,97,34,58,32,38,97,49,10,32,32,45,32,49,10,34,98,34,58,32,42,97,49,10,34,99,34,58,32,42,97,49,10]⟩:=rfl;have b:=λW (f:Glob W)=>py W f;have c:=λW (f:Glob W)=>px W f;rw[k,d]at b;rw[g,d]at c;obtain⟨l,i,j⟩:=zx3 b c n;clear b c k g d n
 go_enter func5,ntmps5
 go_wp2_with fail
 refine(l.out _ j.out).mono ?_;rintro e q ⟨rfl,o⟩;have a:=zD o;clear o l
 go_wp2_with fail
 refine(i.out _ (j.out.step a.out)).mono ?_;rintro e r ⟨rfl,m⟩;have p:=zD (a.out.trans (m.mono a.out.size));clear m i a
 go_wp2_with fail
 go_ret
 exact⟨rfl,p.out⟩
def cut20(s:ByteArray):ByteArray:=s.extract 0 (min s.size 20)
def yJ(s:ByteArray):Tp.B:=(cut20 s).data.toList
theorem iA(s:ByteArray):(cut20 s).size<=20:=by
 unfold cut20;rw[ByteArray.size_extract];omega
theorem un(s:ByteArray):(yJ s).length<=20:=by
 have:=iA s;unfold yJ;rw[Array.length_toList];exact this
theorem aZ(a d:Tp.B)(c:ByteArray)(b:xR a=U c):xR (a++d)=U (c++⟨d.toArray⟩):=by
 unfold xR at b ⊢;injection b with b;rw[<-b,cV]
theorem cU(a:Tp.B)(c:ByteArray)(b:xR a=U c):c.size=a.length:=by
 unfold xR at b;injection b with b;rw[<-b];rfl
end Go.Proofs.YtbikgdhbiebhcaaGreatDoor
namespace Tp
open Ln (right plainB)
theorem B7(x:Sc):∀l,(insK x l).Perm (x::l)
 | []=>List.Perm.refl _
 |y::r=>by
  rw[insK];split
  ·exact List.Perm.refl _
  ·exact((B7 x r).cons y).trans (List.Perm.swap x y r)
theorem Bf(l:List Sc):(sortK l).Perm l:=by
 have:∀(l a:List Sc),(l.foldl (λa x=>insK x a) a).Perm (l++a):=by
  intro l;induction l with
  |nil=>intro a;exact List.Perm.refl _
  |cons x l ih=>
   intro a;rw[List.foldl_cons];exact(ih _).trans (((B7 x a).append_left l).trans List.perm_middle)
 simpa [sortK]using this l []
theorem sr:∀l:List Sc,twice l=false↔l.Nodup
 | []=>by simp[twice]
 |x::r=>by simp[twice,sr r]
theorem CX{α:Type}[DecidableEq α](x:α):∀(n:Nat) (a:List α),x∈a->fst' a (List.replicate n x)=a
 |0,a,_=>rfl
 |n+1,a,h=>by rw[List.replicate_succ,bB,if_pos h];exact CX x n a h
theorem BN{α:Type}[DecidableEq α](a x:α)(b:x≠a)(n:Nat)(c:n≠0):firsts (a::List.replicate n x)=[a,x]:=by
 obtain⟨m,rfl⟩:∃m,n=m+1:=⟨n - 1,by omega⟩;rw[dV,bB,if_neg (by simp),List.nil_append,List.replicate_succ,bB,if_neg (by simpa using b)];exact CX x m [a,x] (by simp)
theorem B5{α b:Type}(a:b):∀l:List α,(l.map λ_=>a)=List.replicate l.length a
 | []=>rfl
 |_::l=>by rw[List.map_cons,B5 a l];rfl
def D3:Say:=(0,⟨2,7,[]⟩,[],[])
theorem BY(a:List Sc)(j:a≠[])(c:List Nat):round (DV a) c=(0::List.replicate a.length 1,2):=by
 obtain⟨b,f⟩:∃b,say c ⟨2,Sc.null,a,(List.range a.length).map (·+1)⟩=b:=⟨_,rfl⟩;have i:(DV a).map (say c)=b::List.replicate a.length D3:=by
  rw[DV,List.map_cons,f,List.map_map,<-B5];congr 1
 have d:D3≠b:=by intro e;rw[<-f]at e;simp[D3,say]at e
 have g:a.length≠0:=by intro e;exact j (List.length_eq_zero_iff.1 e)
 unfold round;simp only[i,BN b D3 d _ g,List.map_cons,List.map_replicate,bp,if_true,if_neg (Ne.symm d),zO,List.length_nil]
theorem BB(a:List Sc)(b:a≠[]):classes (DV a)=W (0::List.replicate a.length 1):=by
 unfold classes;rw[BY a b,refine,if_pos (by omega),BY a b,refine,if_neg (by omega)]
def DU(K:List Sc):List Nd:=[⟨2,Sc.null,K,List.replicate K.length 1⟩,DY]
theorem Dz(a:List Sc)(b:List Nat)(c:a.length=b.length):(a.zip b).length=a.length:=by rw[List.length_zip];omega
theorem BL(b:List Sc)(a:List Nat)(c:b.length=a.length):pairs ⟨2,Sc.null,b,a⟩=sort (b.zip a):=by
 unfold pairs;rw[if_pos ⟨rfl,c⟩]
theorem By(b:List Sc)(a:List Nat)(c:b.length=a.length)(p:Nat->Nat)(j:Nat)(e:∀i∈a,p i=j):(kidsOf ⟨2,Sc.null,b,a⟩).map p=List.replicate b.length j:=by
 unfold kidsOf;rw[if_neg (show ¬(2:Int)=1 by decide),BL b a c];obtain⟨g,f⟩:=cW (b.zip a);rw[List.eq_replicate_iff];refine⟨by simp[g,Dz b a c],λl d=>?_⟩;rw[List.map_map,List.mem_map]at d;obtain⟨x,k,rfl⟩:=d;exact e _ (List.of_mem_zip ((f x).1 k)).2
theorem Bz(a:List Sc)(b:List Nat)(c:a.length=b.length):keysOf ⟨2,Sc.null,a,b⟩=sortK a:=by
 unfold keysOf;rw[BL a b c];exact Dh a b c
theorem A0(a:List Sc):(sortK a).length=a.length:=(Bf a).length_eq
theorem BS(a:List Sc)(c:a≠[]):whole (DV a) (0::List.replicate a.length 1)=DU (sortK a):=by
 have g:a.length≠0:=by intro e;exact c (List.length_eq_zero_iff.1 e)
 unfold whole;rw[BN 0 1 (by decide) _ g];obtain⟨m,d⟩:∃m,a.length=m+1:=⟨a.length - 1,by omega⟩;have l:idx (0::List.replicate a.length 1) 1=1:=by rw[bp,if_neg (by decide),d,List.replicate_succ,bp,if_pos rfl]
 have n:idx (0::List.replicate a.length 1) 0=0:=by rw[bp,if_pos rfl]
 have f:(DV a).getD 1 ⟨0,Sc.null,[],[]⟩=DY:=by
  obtain⟨x,p,rfl⟩:=List.exists_cons_of_ne_nil c;rfl
 have k:(DV a).getD 0 ⟨0,Sc.null,[],[]⟩=⟨2,Sc.null,a,(List.range a.length).map (·+1)⟩:=rfl;simp only[List.map_cons,List.map_nil,n,l,k,f];rw[Bz a _ (by simp),By a _ (by simp) _ 1 (by
  intro i o;obtain⟨j,b,rfl⟩:=List.mem_map.1 o;rw[List.mem_range]at b;simp[b])]
 simp only[DU,A0];rfl
theorem Bv(K:List Sc)(a:risen K):sortK K=K:=by simpa [sortK]using Cq K [] (by simpa using a)
theorem Bl(K:List Sc)(v:K≠[])(s:risen K)(p:∀x∈K,AK x=true)(o:twice K=false)(A:K.length<=100):tidy 0 (DU K)=W (DU K):=by
 have r:K.length≠0:=by intro e;exact v (List.length_eq_zero_iff.1 e)
 have w:okGr 0 (DU K)=true:=by
  simp only[okGr,DU,zO,List.length_nil,List.all_cons,List.all_nil,Bool.and_true,zQ,decide_eq_true_eq];refine⟨⟨by simp,by simp⟩,?_,rfl⟩;simp only[okNd,show ¬(2:Int)=0 by decide,show ¬(2:Int)=1 by decide,if_false,beq_self_eq_true,decide_true,List.length_replicate,o,Bool.not_false,Bool.and_true,Bool.true_and,zQ,List.all_eq_true,decide_eq_true_eq];exact⟨λx u=>p x u,λj y=>by rw[(List.mem_replicate.1 y).2];omega⟩
 have c:kidsOf ⟨2,Sc.null,K,List.replicate K.length 1⟩=List.replicate K.length 1:=by
  have:=By K (List.replicate K.length 1) (by simp) id 1 (λi t=>(List.mem_replicate.1 t).2)
  simpa using this
 have k:∀(n a:Nat) (b:List Nat),n+1 < a->1 ∉ b->0∈b->n≠0->walk (DU K) a (List.replicate n 1) b=W (b++[1]):=by
  have l:∀(n a:Nat) (b:List Nat),n < a->1∈b->walk (DU K) a (List.replicate n 1) b=W b:=by
   intro n;induction n with
   |zero=>intro a b d _;obtain⟨a,rfl⟩:∃g,a=g+1:=⟨a - 1,by omega⟩;rfl
   |succ n ih=>
    intro a b d f;obtain⟨a,rfl⟩:∃g,a=g+1:=⟨a - 1,by omega⟩;rw[List.replicate_succ,walk];simp only[f,if_true];exact ih a b (by omega) f
  intro n a b d q z C;obtain⟨a,rfl⟩:∃g,a=g+1:=⟨a - 1,by omega⟩;obtain⟨n,rfl⟩:∃m,n=m+1:=⟨n - 1,by omega⟩;rw[List.replicate_succ,walk];simp only[q,if_false];rw[show kidsOf ((DU K).getD 1 ⟨0,Sc.null,[],[]⟩)=[]from rfl,List.nil_append];exact l n a _ (by omega) (by simp)
 unfold tidy;rw[if_pos w,walk];simp only[List.not_mem_nil,if_false,List.nil_append,List.append_nil];rw[show (DU K).getD 0 ⟨0,Sc.null,[],[]⟩=⟨2,Sc.null,K,List.replicate K.length 1⟩from rfl,c,k _ _ [0] (by omega) (by simp) (by simp) r];simp only[Option.map_some,List.cons_append,List.nil_append,List.map_cons,List.map_nil];rw[show (DU K).getD 0 ⟨0,Sc.null,[],[]⟩=⟨2,Sc.null,K,List.replicate K.length 1⟩from rfl,c,Bz K _ (by simp),Bv K s,List.map_replicate];rfl
theorem BQ(a:List Sc)(c:a≠[])(f:∀x∈a,AK x=true)(g:twice a=false)(l:a.length<=100):quot (DV a)=W (DU (sortK a)):=by
 have d:=Bf a;have m:okGr 0 (DV a)=true:=by
  simp only[okGr,DV,zO,List.length_map,List.all_cons,List.all_map,zQ,decide_eq_true_eq];refine⟨⟨by omega,by omega⟩,?_,by rw[List.all_eq_true];intro x _;rfl⟩;simp only[okNd,show ¬(2:Int)=0 by decide,show ¬(2:Int)=1 by decide,if_false,beq_self_eq_true,decide_true,List.length_map,List.length_range,g,Bool.not_false,Bool.and_true,Bool.true_and,zQ,List.all_eq_true,decide_eq_true_eq];exact⟨λx b=>f x b,λj k=>by obtain⟨i,n,rfl⟩:=List.mem_map.1 k;rw[List.mem_range]at n;omega⟩
 unfold quot;rw[if_pos m,BB a c];simp only[List.getD_cons_zero,BS a c];exact Bl _ (by intro e;exact c (List.length_eq_zero_iff.1 (by rw[<-A0,e];rfl))) (lS a) (λx b=>f x (d.mem_iff.1 b)) ((sr _).2 (d.nodup_iff.2 ((sr _).1 g))) (by rw[A0];exact l)
def wantK(K:List Sc):B:=K.flatMap λx=>scText x++[58,32,55,10]
theorem gV(x:Sc)(b:okKey x):(scText x).length<=82:=by
 by_cases a:x.k=3
 ·have e:scText x=quote x.s:=by simp[scText,a]
  have:=aD x.s;have:=b.2.1;rw[e];omega
 ·have:=(Bj x b a).2.2
  omega
theorem C6(c:List Sc)(D:c≠[])(v:∀x∈c,okKey x)(u:twice c=false)(al:c.length<=9):canon (DV c)=W (wantK (sortK c)):=by
 have z:=Bf c;have w:∀x∈sortK c,okKey x:=λx o=>v x (z.mem_iff.1 o);have a3:(sortK c).length<=9:=by rw[A0];exact al
 have E:sortK c≠[]:=by intro e;exact D (List.length_eq_zero_iff.1 (by rw[<-A0,e];rfl))
 have ab:twice (sortK c)=false:=(sr _).2 (z.nodup_iff.2 ((sr _).1 u));unfold canon;rw[BQ c D (λx o=>(v x o).1) u (by omega),Option.bind_some];have A:=lS c;generalize sortK c=K at *;have t:(DU K).getD 0 ⟨0,Sc.null,[],[]⟩=⟨2,Sc.null,K,List.replicate K.length 1⟩:=rfl;have y:(DU K).getD 1 ⟨0,Sc.null,[],[]⟩=DY:=rfl;have a2:K.length≠0:=by intro e;exact E (List.length_eq_zero_iff.1 e)
 have P:kidsOf ⟨2,Sc.null,K,List.replicate K.length 1⟩=List.replicate K.length 1:=by
  have:=By K (List.replicate K.length 1) (by simp) id 1 (λi an=>(List.mem_replicate.1 an).2)
  simpa using this
 have ao:∀(n b:Nat) (j:List Nat),n+3<=b->(j=[1,0]\/j=[1,2])->∃d,deepestL (DU K) b 2 (List.replicate n 1) j=W d/\(d=[1,0]\/d=[1,2]):=by
  intro n;induction n with
  |zero=>intro b j k p;obtain⟨b,rfl⟩:∃g,b=g+1:=⟨b - 1,by omega⟩;exact⟨j,rfl,p⟩
  |succ n ih=>
   intro b j k p;obtain⟨b,rfl⟩:∃g,b=g+3:=⟨b - 3,by omega⟩;rw[List.replicate_succ,deepestL];have:∃d,deepest (DU K) (b+2) 1 2 j=W d/\(d=[1,0]\/d=[1,2]):=by
    rw[deepest];rcases p with rfl|rfl
    ·exact⟨[1,2],rfl,.inr rfl⟩
    ·exact⟨[1,2],rfl,.inr rfl⟩
   obtain⟨d,e,S⟩:=this;rw[e];exact ih (b+2) d (by omega) S
 obtain⟨d,G,ad⟩:=ao K.length 999 [1,0] (by omega) (.inl rfl);have X:deepest (DU K) 1000 0 1 (List.replicate (DU K).length 0)=W d:=by
  rw[deepest,if_neg (by simp[DU]),t];exact G
 have a0:((List.range (DU K).length).all λi=>decide (d.getD i 0+(if ((DU K).getD i ⟨0,Sc.null,[],[]⟩).kids.isEmpty then 0 else 1)<=24))=true:=by
  rw[List.all_eq_true];intro i _;have:d.getD i 0<=2:=by
   rcases ad with rfl|rfl<;>(rcases i with _|_|i<;>simp)
  simp only[decide_eq_true_eq];split<;>omega
 have k:((DU K).flatMap (·.kids))=List.replicate K.length 1:=by simp[DU,DY]
 have F:∀i,isAnch (DU K) i=false
  |0=>by
   unfold isAnch uses;rw[k];simp
  |i+1=>by
   unfold isAnch;have:((DU K).getD (i+1) ⟨0,Sc.null,[],[]⟩).kids=[]:=by
    rcases i with _|i
    ·rfl
    ·simp[DU]
   simp only[this,List.isEmpty_nil,Bool.not_true,Bool.and_false,Bool.false_and]
 have R:∀i,anchName (DU K) i=[]:=λi=>by unfold anchName anchor;rw[F];rfl
 have N:places (DU K)<=200:=by
  have C:∀i,uses (DU K) i<=10:=by
   intro i;unfold uses;rw[k];have:=List.count_le_length (a:=i) (l:=List.replicate K.length 1);rw[List.length_replicate]at this;split<;>omega
  unfold places;rw[show (DU K).length=2 from rfl];simp only[List.range,List.range.loop,List.map_cons,List.map_nil,List.sum_cons,List.sum_nil,F,Bool.false_eq_true,if_false];have:=C 0;have:=C 1;omega
 have T:∀(l:List Sc) (b:Nat) (q:List Nat),l.length < b->itemsL (DU K) b 0 ((l.map λf=>scText f++[58]).zip (List.replicate l.length 1)) q=W (l.map λf=>scText f++[58,32,55],q):=by
  intro l;induction l with
  |nil=>intro b q k;obtain⟨b,rfl⟩:∃g,b=g+1:=⟨b - 1,by omega⟩;rfl
  |cons x l ih=>
   intro b q k;obtain⟨b,rfl⟩:∃g,b=g+1:=⟨b - 1,by omega⟩;rw[List.map_cons,zO,List.replicate_succ,List.zip_cons_cons,itemsL,y];simp only[DY,List.isEmpty_nil,if_true];rw[ih b q (by simpa using k)];simp only[Option.map_some,List.replicate_zero,List.nil_append,List.map_cons,List.append_assoc];rfl
 have M:lines (DU K)=W (K.map λf=>scText f++[58,32,55]):=by
  have a1:(List.replicate K.length 1).isEmpty=false:=by obtain⟨m,av⟩:∃m,K.length=m+1:=⟨K.length - 1,by omega⟩;rw[av];rfl
  unfold lines;simp only[t,a1,Bool.false_eq_true,if_false,R,List.isEmpty_nil,if_true];rw[items];simp only[t,P];rw[show headsOf ⟨2,Sc.null,K,List.replicate K.length 1⟩=(keysOf ⟨2,Sc.null,K,List.replicate K.length 1⟩).map λf=>scText f++[58]from rfl,Bz K _ (by simp),Bv K A,T K 999 [0] (by omega)];rfl
 have ac:(K.map λf=>scText f++[58,32,55]).flatMap (·++[10])=wantK K:=by
  rw[List.flatMap_map,wantK];simp
 have H:(wantK K).length<=8000:=by
  have:∀l:List Sc,(∀x∈l,okKey x)->(wantK l).length<=l.length * 86:=by
   intro l;induction l with
   |nil=>intro _;simp[wantK]
   |cons s r ih=>
    intro p;have y:=gV s (p s (by simp));have L:=ih λx o=>p x (by simp[o]);simp only[wantK,List.flatMap_cons,zP,zO,List.length_nil]at L ⊢;rw[Nat.add_mul];omega
  have:=this K w;omega
 unfold printed;rw[if_pos (Bl K E A (λx o=>(w x o).1) ab (by omega)),X];simp only[a0,if_true,M,ac];rw[if_pos ⟨N,H⟩]
end Tp
namespace Tp
open Ln (right plainB)
theorem Bw(s:B)(b:okPlain s=true):∀a∈s,(97<=a.toNat/\a.toNat<=122)\/(48<=a.toNat/\a.toNat<=57)\/a.toNat=45:=by
 intro a c;simp only[okPlain,zQ,List.all_eq_true]at b;have:=b.1.1 a c;simp only[plainC,Bool.or_eq_true,zQ,decide_eq_true_eq,beq_iff_eq]at this;omega
theorem BV(x:Sc)(d:okKey x):∀a∈scText x,32<=a.toNat/\a.toNat≠127:=by
 intro a b;by_cases c:x.k=3
 ·have e:scText x=quote x.s:=by simp[scText,c]
  rw[e]at b;exact fD x.s a b
 ·have:=Bw _ (Bj x d c).2.1 a b
  omega
theorem BZ(x:Sc)(a:okKey x)(t:B)(b:right t=true):right (scText x++t)=true:=by
 by_cases c:x.k=3
 ·have e:scText x=quote x.s:=by simp[scText,c]
  rw[e];exact dh x.s t a.2.2 b
 ·rw[Ln.aS _ _ λd f=>by have:=Bw _ (Bj x a c).2.1 d f;omega]
  exact b
theorem Bq:∀(c:List Sc),(∀x∈c,okKey x)->∀b∈rowK c,32<=b.toNat/\b.toNat≠127
 | [],_,b,a=>by simp only[rowK,List.mem_cons,List.not_mem_nil,or_false]at a;subst a;decide
 |s::r,hk,b,a=>by
  simp only[rowK,List.mem_append,List.mem_cons]at a;rcases a with a|rfl|rfl|rfl|rfl|rfl|a
  ·exact BV s (hk s (by simp)) b a
  ·decide
  ·decide
  ·decide
  ·decide
  ·decide
  ·exact Bq r (λx d=>hk x (by simp[d])) b a
theorem Br:∀a:List Sc,(∀x∈a,okKey x)->right (rowK a)=true
 | [],_=>Ln.aH [125] (by decide)
 |s::r,h=>by
  rw[rowK];refine BZ s (h s (by simp)) _ ?_;rw[Ln.aR _ _ (by decide),Ln.aR _ _ (by decide),Ln.aR _ _ (by decide),Ln.aR _ _ (by decide),Ln.aR _ _ (by decide)];exact Br r λx b=>h x (by simp[b])
theorem Bu:∀a:List Sc,(∀x∈a,okKey x)->(rowK a).length<=a.length * 87+1
 | [],_=>by simp[rowK]
 |s::r,h=>by
  have d:=gV s (h s (by simp));have b:=Bu r λx c=>h x (by simp[c]);simp only[rowK,zP,zO]at b ⊢;rw[Nat.add_mul];omega
theorem BX:∀c:List Sc,∃a,rowK c=a++[125]
 | []=>⟨[],rfl⟩
 |s::r=>by obtain⟨a,b⟩:=BX r;exact⟨scText s++58::32::55::44::32::a,by rw[rowK,b];simp⟩
theorem Cd(a:List Sc)(q:a.length<=9)(c:∀x∈a,okKey x):Ln.split (123::rowK a)=([⟨1,0,123::rowK a⟩],0,0):=by
 have p:=Bu a c;have f:∀b∈123::rowK a,32<=b.toNat/\b.toNat≠127:=by
  intro b d;rcases List.mem_cons.1 d with rfl|d
  ·decide
  ·exact Bq a c b d
 have g:Ln.rows (123::rowK a)=[123::rowK a]:=Ln.jU _ (by simp) λm k e=>by have:=(f m k).1;rw[e]at this;exact absurd this (by decide)
 obtain⟨r,n⟩:=BX a;have l:Ln.lead (123::rowK a)=123::rowK a:=rfl;have j:Ln.tail (123::rowK a)=123::rowK a:=by
  unfold Ln.tail;rw[n,<-List.cons_append,List.reverse_append];simp
 rw[eS _ (by simp;omega) (by rw[Ln.aR _ _ (by decide)];exact Br a c) ?_,g]
 ·rw[Ln.lns,Ln.lns,Ln.lineL,if_pos (show Ln.says (123::rowK a)=true from rfl),Ln.lineOf,l,j]
  simp
 ·rw[g]
  intro o i;rw[List.mem_singleton]at i;subst i;unfold Ln.trouble;rw[dK _ f,show Ln.markB (123::rowK a)=false from rfl];rfl
theorem DJ(a:List Sc)(c:a.length<=9)(b:∀x∈a,okKey x):ents [⟨1,0,123::rowK a⟩]=W [⟨1,0,⟨10,[],0⟩::DX 1 a⟩]:=by
 simp only[ents,dz _ _ _ _ _ _ 9000 (CN a b) (by omega),List.isEmpty_cons,Bool.false_eq_true,if_false]
end Tp
namespace Go.Proofs.YtbikgdhbiebhcaaGreatDoor
open Go.RowKit Tryz
section
open Tp in
theorem Bm (x:Sc) (b:x.s.length<=20):okKey x↔x8 x=true:=by
 obtain⟨k,n,s⟩:=x;unfold okKey AK x8;simp only at b ⊢;by_cases e:k=0
 ·simp only[if_pos e,zQ,beq_iff_eq,List.isEmpty_iff,decide_eq_true_eq]
  exact⟨λa=>a.1,λa=>⟨a,b,by rw[a.2];exact Ln.dF⟩⟩
 rw[if_neg e,if_neg e];by_cases d:k=1
 ·simp only[if_pos d,zQ,Bool.or_eq_true,beq_iff_eq,List.isEmpty_iff,decide_eq_true_eq]
  exact⟨λa=>a.1,λa=>⟨a,b,by rw[a.1];exact Ln.dF⟩⟩
 rw[if_neg d,if_neg d];by_cases c:k=2
 ·simp only[if_pos c,zQ,List.isEmpty_iff,decide_eq_true_eq]
  exact⟨λa=>⟨⟨a.1.1,a.1.2.1⟩,a.1.2.2⟩,λa=>⟨⟨a.1.1,a.1.2,a.2⟩,b,by rw[a.1.1];exact Ln.dF⟩⟩
 rw[if_neg c,if_neg c];by_cases f:k=3
 ·subst f
  simp only[beq_self_eq_true,Bool.true_and,if_true,zQ,beq_iff_eq,decide_eq_true_eq];exact⟨λa=>⟨a.1,a.2.2⟩,λa=>⟨a.1,b,a.2⟩⟩
 ·simp[f]
open Tp in
theorem Bo:∀a:List Sc,yE (a.map λ_=>DW)/\yl (a.map λ_=>DW)=[]
 | []=>⟨by simp[yE],by simp[yl]⟩
 |s::r=>by
  obtain⟨b,c⟩:=Bo r;rw[List.map_cons];refine⟨?_,?_⟩
  ·unfold yE
   refine⟨?_,b⟩;unfold DW zb;exact⟨⟨by decide,by decide⟩,by simp,by simp,by simp,by simp,by simp[yE]⟩
  ·unfold yl
   rw[c];simp[DW,yv,yl]
open Tp in
theorem Bg (c:List Sc) (a:∀x∈c,okKey x):∀x∈c,x8 x=true/\x.s.length<=20:=λx b=>⟨(Bm x (a x b).2.1).1 (a x b),(a x b).2.1⟩
open Tp in
theorem B8 (a:List Sc) (g:a.length<=9) (c:∀x∈a,okKey x):zb (mapT a)/\yv (mapT a)=[]:=by
 obtain⟨f,e⟩:=Bo a;unfold mapT zb yv;rw[e];exact⟨⟨⟨jX.1,by decide⟩,λb d=>⟨(Bg a c b d).1,Nat.le_trans (Bg a c b d).2 (by omega)⟩,by simp,by omega,by simp;omega,f⟩,by simp⟩
open Tp in
theorem B3:∀(f:List Sc) (a:Nat),(∀x∈f,okKey x)->∀t∈DX a f,zf t
 | [],a,_,t,b=>by
  unfold DX at b;rw[List.mem_singleton]at b;subst b;exact⟨by show 0<=_;omega,λe=>by simp at e⟩
 |x::r,a,h,t,b=>by
  unfold DX at b;have c:=h x (by simp);simp only[List.mem_cons]at b;rcases b with rfl|rfl|rfl|rfl|b
  ·unfold D0
   by_cases d:x.k=3
   ·rw[if_pos d]
    exact⟨by show x.s.length<=_;have:=c.2.1;omega,λ_=>c.2.2⟩
   ·rw[if_neg d]
    exact⟨by show (scText x).length<=_;have:=Tp.gV x c;omega,λe=>by simp at e⟩
  ·exact⟨by show 0<=_;omega,λe=>by simp at e⟩
  ·exact⟨by show 1<=_;omega,λe=>by simp at e⟩
  ·exact⟨by show 0<=_;omega,λe=>by simp at e⟩
  ·exact B3 r _ (λg i=>h g (by simp[i])) t b
structure LdT(s:ByteArray)(ls:List Ln.Line)(es:List Tp.En)(t:Tp.Tree):Prop where
 size:s.size<=1000000
 split:(Ln.split s.data.toList).2.2=0
 lines:(Ln.split s.data.toList).1=ls
 few:ls.length<=10000
 ind:∀x∈ls,0<=x.ind/\x.ind<=8000
 txt:∀x∈ls,x.s.length<=100000/\Ln.right x.s=true/\Ln.plainB x.s=true
 ents:Tp.ents ls=W es
 ens:∀x∈es,(∀t∈x.l,zf t)/\x.l.length<=100000
 tree:Tp.bread es=W t
 good:zb t
open Tp in
theorem DF (a:List Sc) (d:a.length<=9) (b:∀x∈a,okKey x):LdT ⟨(123::rowK a).toArray⟩ [⟨1,0,123::rowK a⟩] [⟨1,0,⟨10,[],0⟩::DX 1 a⟩] (mapT a):=by
 have k:=Bu a b;have i:=Cd a d b;refine⟨?_,by show (Ln.split (123::rowK a)).2.2=0;rw[i],by show (Ln.split (123::rowK a)).1=_;rw[i],by simp,?_,?_,DJ a d b,?_,CD a b 1,(B8 a d b).1⟩
 ·show (123::rowK a).length<=_
  simp;omega
 ·intro x c
  rw[List.mem_singleton]at c;subst c;show (0:Int)<=0/\(0:Int)<=8000;omega
 ·intro x c
  rw[List.mem_singleton]at c;subst c;refine⟨by show (123::rowK a).length<=_;simp;omega,by rw[Ln.aR _ _ (by decide)];exact Br a b,dK _ λj g=>?_⟩;rcases List.mem_cons.1 g with rfl|g
  ·decide
  ·exact Bq a b j g
 ·intro x c
  rw[List.mem_singleton]at c;subst c;refine⟨λt f=>?_,by show (⟨10,[],0⟩::DX 1 a:List Tk).length<=_;rw[zO,Bk];omega⟩;rcases List.mem_cons.1 f with rfl|f
  ·exact⟨by show 0<=_;omega,λe=>by simp at e⟩
  ·exact B3 a 1 b t f
open Tp in
theorem Dy (a:List Sc) (d:a.length<=9) (c:∀x∈a,okKey x) (f:twice a=false):At ⟨(123::rowK a).toArray⟩ [⟨1,0,123::rowK a⟩] [⟨1,0,⟨10,[],0⟩::DX 1 a⟩] (mapT a) (DV a):=by
 have b:=DF a d c;have e:=CA a c (by omega);rw[if_neg (by rw[f];simp)]at e;exact⟨b.size,b.split,b.lines,b.few,b.ind,b.txt,b.ents,b.ens,b.tree,b.good,e,by rw[(B8 a d c).2];simp,by have:=BP a;omega⟩
open Tp in
theorem BK (K:List Sc) (n:Nat) (f:K.length<=9) (g:2<=n) (b:∀x∈K,okKey x):∀x∈DU K,yd n x:=by
 intro x d;simp only[DU,List.mem_cons,List.not_mem_nil,or_false]at d;rcases d with rfl|rfl
 ·exact qc n K _ (λa c=>⟨(Bg K b a c).1,Nat.le_trans (Bg K b a c).2 (by omega)⟩) (by omega) (by simp) (λk e=>by rw[(List.mem_replicate.1 e).2];omega)
 ·exact sZ n _ ⟨by decide,by decide⟩
open Tp in
theorem Bp (a:List Sc) (l:a.length<=9) (d:∀x∈a,okKey x):∀x∈DV a,yd (DV a).length x:=by
 intro x b;have g:(DV a).length=a.length+1:=by simp[DV]
 rw[g];unfold DV at b;rcases List.mem_cons.1 b with rfl|b
 ·exact qc _ a _ (λc e=>⟨(Bg a d c e).1,Nat.le_trans (Bg a d c e).2 (by omega)⟩) (by omega) (by simp) (λk f=>by obtain⟨i,j,rfl⟩:=List.mem_map.1 f;have:=List.mem_range.1 j;omega)
 ·obtain⟨s,m,rfl⟩:=List.mem_map.1 b
  exact sZ _ _ ⟨by decide,by decide⟩
open Tp in
theorem Bi (a:List Sc) (b:∀x∈a,okKey x):∀x∈sortK a,okKey x:=λx c=>b x ((Bf a).mem_iff.1 c)
open Tp in
theorem DQ (a:List Sc) (c:a≠[]) (o:a.length<=9) (d:∀x∈a,okKey x) (k:twice a=false):QOk (DV a) (0::List.replicate a.length 1) (DU (sortK a)):=by
 have n:(DV a).length=a.length+1:=by simp[DV]
 have l:a.length≠0:=by intro e;exact c (List.length_eq_zero_iff.1 e)
 have g:=BS a c;have j:=A0 a;have q:okGr 0 (DV a)=true:=by
  have f:=BQ a c (λx i=>(d x i).1) k (by omega);unfold quot at f;by_cases b:okGr 0 (DV a)=true
  ·exact b
  ·rw[if_neg b]at f;cases f
 have m:=Bf a;have p:=Bl (sortK a) (by intro e;rw[e]at j;exact l j.symm) (lS a) (λx i=>(Bi a d x i).1) ((sr _).2 (m.nodup_iff.2 ((sr _).1 k))) (by omega);refine qD _ _ _ (by omega) (Bp a o d) (by rw[g];exact BK _ _ (by omega) (by omega) (Bi a d)) (by rw[g];show 2<=_;omega) q (BB a c) (by simp[n]) ?_ rfl (by rw[g];exact p);intro r b;rcases List.mem_cons.1 b with rfl|b
 ·omega
 ·rw[(List.mem_replicate.1 b).2];omega
open Tp in
theorem CO (c:List Sc) (r:c≠[]) (H:c.length<=9) (n:∀x∈c,okKey x) (p:twice c=false):zm (DU (sortK c)) (wantK (sortK c)):=by
 have s:=A0 c;have z:c.length≠0:=by intro e;exact r (List.length_eq_zero_iff.1 e)
 have F:=Bf c;have f:=Bl (sortK c) (by intro e;rw[e]at s;exact z s.symm) (lS c) (λx d=>(Bi c n x d).1) ((sr _).2 (F.nodup_iff.2 ((sr _).1 p))) (by omega);have b:=C6 c r n p H;unfold canon at b;rw[BQ c r (λx d=>(n x d).1) p (by omega),Option.bind_some]at b;have D:=Bi c n;generalize sortK c=K at *;obtain⟨R,T,w⟩:∃a l,List.replicate K.length 1=a::l:=by
  obtain⟨m,N⟩:∃m,K.length=m+1:=⟨K.length - 1,by omega⟩;exact⟨1,List.replicate m 1,by rw[N,List.replicate_succ]⟩
 have u:(DU K)[0]? =W ⟨2,Sc.null,K,List.replicate K.length 1⟩:=rfl;have L:(DU K).getD 0 ⟨0,Sc.null,[],[]⟩=⟨2,Sc.null,K,List.replicate K.length 1⟩:=rfl;have A:isAnch (DU K) 0=false:=by
  have G:((DU K).flatMap (·.kids))=List.replicate K.length 1:=by simp[DU,DY]
  unfold isAnch uses;rw[G];simp
 have t:anchor (DU K) 0=0:=by unfold anchor;rw[A];rfl
 have M:okGr 0 (DU K)=true:=by
  unfold tidy at f;by_cases b:okGr 0 (DU K)=true
  ·exact b
  ·rw[if_neg b]at f;cases f
 unfold printed at b;rw[if_pos f]at b;cases o:deepest (DU K) 1000 0 1 (List.replicate (DU K).length 0) with
 |none=>rw[o]at b;cases b
 |some ds=>
  rw[o]at b;simp only at b;split at b
  ·rename_i hall
   cases g:lines (DU K) with
   |none=>rw[g]at b;cases b
   |some ls=>
    rw[g]at b;simp only at b;split at b
    ·rename_i hps
     injection b with b;rw[<-b];unfold lines at g;simp only[L,w,List.isEmpty_cons,Bool.false_eq_true,if_false,show anchName (DU K) 0=[]by unfold anchName;rw[t];rfl,List.isEmpty_nil,if_true]at g;obtain⟨⟨P,C⟩,q,v⟩:=zN.1 g;simp only at v;subst v;refine nh _ ds _ (uB _ ds _ C ⟨2,Sc.null,K,List.replicate K.length 1⟩ 0 (by show 2<=_;omega) (BK K _ (by omega) (by show 2<=2;omega) D) M f o ?_ hps.1 u (by rw[w];simp) t q ?_ (by omega) hps.2)
     ·intro i q
      have:=List.all_eq_true.1 hall i (List.mem_range.2 q);exact of_decide_eq_true this
     ·intro x d k E S j
      rw[u]at d;injection d with d;subst d;have y:=bj _ k E;rw[(List.mem_replicate.1 y).2]at j;injection j with j;subst j;rfl
    ·cases b
  ·cases b
open Tp in
theorem DS:QOk (DV []) [0] (DV []):=by
 have a:whole (DV []) [0]=DV []:=by kernel_rfl
 have b:∀x∈DV [],yd (DV []).length x:=Bp [] (by simp) (λx c=>by simp at c);exact qD _ _ _ (by decide) b (by rw[a];exact b) (by rw[a];decide) (by kernel_rfl) (by kernel_rfl) rfl (by decide) rfl (by rw[a];kernel_rfl)
end
section
theorem CT(g:List Tp.Nd)(v:Value)(b:NS)(x:Tp.Nd)(P:g[0]? =W x)(T:D8 g 0):AJ g v b [Tp.nodeWord x]:=by
 intro m q c y R al H S a0 C r av ao an;intro l D n p ad d A hF0 M E u F j;refine Ea g v R b c y q x m H P T C r S l D n p ad d A (λk a=>⟨(hF0 k a).1,λe=>(hF0 k a).2 ?_⟩) M E u (λt i L o X z ab ac G=>F t i L o X z ab ?_ G) j
 ·rcases e with e|e|e|e
  ·exact .inl e
  ·exact .inr (.inl e)
  ·exact .inr (.inr (.inl e))
  ·exact .inr (.inr (.inr (.inl e)))
 ·obtain⟨⟨s,w,f⟩,N⟩:=ac
  exact⟨⟨s,0,-1,w,f⟩,N⟩
open Tp in
theorem CP:zm (DV []) [123,125,10]:=by
 have b:([123,125,10]:B)=([[123,125]]:List B).flatMap (·++[10]):=rfl;have a:∀x∈DV [],yd (DV []).length x:=Bp [] (by simp) (λx d=>by simp at d);rw[b];exact nh _ [1] _ ⟨kO _ a,nO _ (by decide) a,by kernel_rfl,by kernel_rfl,by kernel_rfl,by decide,by decide,λv c=>CT _ v c ⟨2,Sc.null,[],[]⟩ rfl ⟨_,rfl,rfl,⟨by decide,by decide⟩,⟨by decide,by decide⟩,by decide⟩,by decide⟩
def D6(a:List Tp.Sc):Tp.B:=if a=[]then [123,125,10]else Tp.wantK (Tp.sortK a)
open Tp in
theorem CC (a:List Sc) (b:a.length<=9) (c:∀x∈a,okKey x) (d:twice a=false) (w:World) (g:Glob w):
 Calls π 7 #[xR (123::rowK a)] w λe w'=>e=ρ (.tuple #[xR (D6 a),V I 0])/\Below w.heap.size w w':=by
 unfold D6;by_cases f:a=[]
 ·subst f
  rw[if_pos rfl];exact d7 _ _ _ _ _ _ _ _ (Dy [] b c d) DS CP w g
 ·rw[if_neg f]
  exact d7 _ _ _ _ _ _ _ _ (Dy a b c d) (DQ a f b c d) (CO a f b c d) w g
end
theorem CR:∀l:List Tp.Sc,(l.flatMap scs).length=l.length * 3
 | []=>rfl
 |x::r=>by rw[List.flatMap_cons,zP,CR r,zO];simp[scs];omega
theorem Dm(p q:Tp.Sc)(w:World):Calls π 28 #[γ (scs p).toArray,γ (scs q).toArray] w λe w'=>e=ρ (V I (za (id p) (id q)))/\Below w.heap.size w w':=mQ p q w
theorem CW(l:List Tp.Sc)(g cap f:Nat)(b8:l.length=f)(X:1<=f)(dj:f<=100000)(w:World)(b5:PR w g (l.flatMap scs)):
 Calls π 97 #[Y (W ⟨g,0,O⟩) f cap,V I 0,V I (f:Int),φ (.func 28) #[] #[]] w λe w'=>(∃v,e=ρ v)/\PR w' g ((yq id l).flatMap scs)/\Far (·=g) w w':=by
 have bn:(yq id (l.take 1)++l.drop 1)=l:=by
  cases l with
  |nil=>simp at b8;omega
  |cons x r=>rfl
 have b6:PR w g ((yq id (l.take 1)++l.drop 1).flatMap scs):=by rw[bn];exact b5
 have c3:=zD b6;clear b5 b6 bn
 go_enter func97,ntmps97
 go_wp2_with fail
 go_loopw [8] (λa4 wr=>∃i:Nat,a4=V I (i:Int)/\1<=i/\i<=f/\PR wr g ((yq id (l.take i)++l.drop i).flatMap scs)/\Far (·=g) w wr) (λa4 _=>f - (Lib.intOf a4).toNat)
 case atStart=>exact⟨1,rfl,η _,X,c3.out,ξ _ _⟩
 case round=>
  obtain⟨i,rfl,da,dl,A,T⟩:=hrel;by_cases cf:i < f
  ·obtain⟨p,a3⟩:∃x,l[i]? =W x:=⟨_,zE (by rw[b8];exact cf)⟩
   have cm:(yq id (l.take i)).length=i:=by rw[cg,List.length_take];omega
   have b2:l.drop i=p::l.drop (i+1):=aE l i p a3;have cv:=od id l i p a3;rw[b2]at A;have ch:(i:Int) < (f:Int):=by omega
   obtain⟨b9,cl,b3⟩:=zx3 A T cm;clear A T b2 a3
   go_wp2_with fail
   go_loopw [9] (λan bR=>∃s B,an=V I ((s.length:Nat):Int)/\(s++B:List Tp.Sc)=yq id (l.take i)/\(∀M,B.head? =W M->Tp.scLt (id p) (id M)=true)/\PR bR g ((s++p::(B++l.drop (i+1))).flatMap scs)/\Far (·=g) w bR) (λan _=>(Lib.intOf an).toNat)
   case atStart=>exact⟨yq id (l.take i),[],by rw[b3.out],List.append_nil _,λM d=>by simp at d,by simpa using b9.out,cl.out⟩
   case round=>
    obtain⟨s,B,rfl,F,bw,t,S⟩:=hrel;have E:(∀a,s.getLast? =W a->Tp.scLt (id p) (id a)=false)->∀b,PR b g ((s++p::(B++l.drop (i+1))).flatMap scs)->PR b g ((yq id (l.take (i+1))++l.drop (i+1)).flatMap scs):=λct b d=>by
     rw[cv,rq id p _ s B F (lT id _) ct bw]
     simpa using d
    rcases List.eq_nil_or_concat s with rfl|⟨n,a,rfl⟩
    ·have bs:=E (λa d=>by simp at d) wr t
     obtain⟨ck,u⟩:=zx2 bs S;have H:((([]:List Tp.Sc).length:Nat):Int)=0:=rfl;rw[H];clear E t S bw F bs
     go_wp2_with fail
     refine wp_region_noPanic ?_;refine ar (λ_=>True) [] (by kernel_rfl) ?_;refine aJ (by kernel_rfl) (λ_ _ _ _ d=>d) trivial 0 [0,1,2,3,4,5,6,7,8,9,10,11,12,13,14,15,16] _ _ (by kernel_rfl) ?_;iterate 4 (refine Ei ?_;(try go_frame))
     iterate 12 (refine aB rfl (by simp only[zH,zI,zJ];rfl) (by kernel_rfl) ?_;(try go_frame))
     iterate 1 (refine Ei ?_;(try go_frame))
     refine xT.done ?_;try dsimp only
     refine aP (by kernel_rfl) (NoPanic.normal ?_) _
     go_wp2_with fail
     go_roundw
     case rel=>exact⟨i+1,by go_num,by omega,by omega,ck.out.far ((ξ xO _).drew) (λe=>e),u.out.drew⟩
     case measure=>simp[Lib.intOf];omega
    ·rw[List.concat_eq_append]at F t E ⊢
     obtain⟨m,av⟩:∃m,n.length=m:=⟨_,rfl⟩;have dc:m+1<=i:=by
      have X:=congrArg List.length F;rw[b3.out]at X;simp at X
      omega
     have bm:(n.flatMap scs).length=m * 3:=by rw[<-av];exact CR n
     have P:((n++[a])++p::(B++l.drop (i+1))).flatMap scs=n.flatMap scs++[V I a.k,V I a.n,xR a.s,V I p.k,V I p.n,xR p.s]++(B++l.drop (i+1)).flatMap scs:=by simp[List.flatMap_append,List.flatMap_cons,scs]
     have ad:(n++p::(a::B++l.drop (i+1))).flatMap scs=n.flatMap scs++[V I p.k,V I p.n,xR p.s,V I a.k,V I a.n,xR a.s]++(B++l.drop (i+1)).flatMap scs:=by simp[List.flatMap_append,List.flatMap_cons,scs]
     have a0:=λb=>Dm p a b;obtain⟨k,bq⟩:∃k,m+1=k:=⟨_,rfl⟩;rw[show (((n++[a]).length:Nat):Int)=(k:Int)by simp[av,<-bq]];have dm:IntKind.i64.wrap ((k:Int) - 1)=(m:Int):=by rw[<-bq,show (((m+1:Nat):Int) - 1)=(m:Int)by omega];exact zU _ (by omega)
     rw[P]at t;have o:∀(j:Nat) (v:Value),[V I a.k,V I a.n,xR a.s,V I p.k,V I p.n,xR p.s][j]? =W v->wr.cell? ⟨g,m * 3+j,O⟩=W v:=λj v be=>t.cell (by
      have ca:=(zM.1 be).1;rw[List.append_assoc,zV (by omega),bm,Nat.add_sub_cancel_left,List.getElem?_append_left ca];exact be)
     have a2:=λ(b:World) (d:PR b g (n.flatMap scs++[V I a.k,V I a.n,xR a.s,V I p.k,V I p.n,xR p.s]++(B++l.drop (i+1)).flatMap scs))=>DN d bm (k:=k * 3) (by omega);have bx:=λ(b:World) (d:PR b g (n.flatMap scs++[V I a.k,V I a.n,xR a.s,V I p.k,V I p.n,xR p.s]++(B++l.drop (i+1)).flatMap scs))=>d.frozen;obtain⟨R,b4⟩:∃al,xR p.s=U al:=⟨_,rfl⟩;obtain⟨L,b1⟩:∃al,xR a.s=U al:=⟨_,rfl⟩;have co:=λj v d=>o j v d;rw[b4,b1]at o a2 bx t ad P;simp only[scs,b4,b1]at a0;have H:∀b,Far xO wr b->b.cell? ⟨g,m * 3,O⟩=W (V I a.k)/\b.cell? ⟨g,m * 3+1,O⟩=W (V I a.n)/\b.cell? ⟨g,m * 3+2,O⟩=W (U L)/\b.cell? ⟨g,k * 3,O⟩=W (V I p.k)/\b.cell? ⟨g,k * 3+1,O⟩=W (V I p.n)/\b.cell? ⟨g,k * 3+2,O⟩=W (U R):=λb z=>⟨z.at (o 0 _ rfl) id,z.at (o 1 _ rfl) id,z.at (o 2 _ rfl) id,(by have:=z.at (o 3 _ rfl) id;rw[show k * 3=m * 3+3 by omega];exact this),(by have:=z.at (o 4 _ rfl) id;rw[show k * 3+1=m * 3+4 by omega];exact this),(by have:=z.at (o 5 _ rfl) id;rw[show k * 3+2=m * 3+5 by omega];exact this)⟩;obtain⟨c2,cT,ac,y⟩:=zx4 a2 E H a0;have dv:(k:Int) < (f:Int):=by omega
     have dg:(0:Int)<=(k:Int):=by omega
     have db:(0:Int) < (k:Int):=by omega
     have dp:0 < k:=by omega
     have dA:(m:Int) < (f:Int):=by omega
     have di:(0:Int)<=(m:Int):=by omega
     obtain⟨bk,c0,cb⟩:=zx3 t ad P;clear E t o a2 a0 H co ad P bx;have u:=zD S;clear S;cases ab:Tp.scLt (id p) (id a) with
     |true=>
      have D:za (id p) (id a)=-1:=by unfold za;rw[ab];rfl
      replace y:RowKit.Hid _:=zD (λb=>D ▸ y.out b)
      clear D
      go_wp2_with fail
      go_region_held3 (λb=>b.cell? ⟨g,m * 3,O⟩=W (V I a.k)/\b.cell? ⟨g,m * 3+1,O⟩=W (V I a.n)/\b.cell? ⟨g,m * 3+2,O⟩=W (U L)/\b.cell? ⟨g,k * 3,O⟩=W (V I p.k)/\b.cell? ⟨g,k * 3+1,O⟩=W (V I p.n)/\b.cell? ⟨g,k * 3+2,O⟩=W (U R)) (exact ac.out _ (by repeat (first|exact ξ _ _|assumption|refine Far.drew ?_|refine Far.alloc ?_ _|refine Far.drewN ?_ _))) (first|(go_at_call 28;refine(y.out wr.drew).mono ?_;rintro e C ⟨rfl,G⟩;have q:Far xO wr C:=((ξ _ wr).drew).below G))
      have c:=bk.out.far q (λe=>e);obtain⟨⟨a1,b0⟩,⟨a5,bb⟩⟩:=c2.out C c;obtain⟨c9,ds,c5,dr,df,dJ⟩:=ac.out C q;have u0:=c.frozen (m * 3);have u1:=c.frozen (m * 3+1);have u2:=c.frozen (m * 3+2);have c6:=c.frozen (k * 3);have c4:=c.frozen (k * 3+1);have dn:=c.frozen (k * 3+2);rw[<-c0.out]at a1 a5;have cc:=zD (a1.far ((ξ xO _).drew) (λe=>e));have c1:=zD (a5.far ((ξ xO _).drew) (λe=>e));have ao:=zD ((u.out.trans ((q.mono (D':=(·=g)) (λ_ _ e=>e.elim)).trans b0)).drew);have cS:=zD ((u.out.trans ((q.mono (D':=(·=g)) (λ_ _ e=>e.elim)).trans bb)).drew);clear c a1 a5 b0 bb q G
      go_wp2_with fail
      go_region
      all_goals (
       go_wp2_with fail
       go_roundw
       case rel=>
        refine⟨n,a::B,by rw[av],by rw[<-F];simp,λM a9=>by simp at a9;rw[<-a9];exact ab,?_,?_⟩
        ·first|(with_reducible exact cc.out)|(with_reducible exact c1.out)
        ·first|(with_reducible exact ao.out)|(with_reducible exact cS.out)
       case measure=>simp[Lib.intOf];omega)
     |false=>
      obtain⟨N,D⟩:∃N,za (id p) (id a)=N:=⟨_,rfl⟩;have dC:¬N < 0:=by rw[<-D];unfold za;rw[ab];simp;split<;>omega
      have bD:∀b,Calls π 28 #[γ #[V I p.k,V I p.n,U R],γ #[V I a.k,V I a.n,U L]] b λe w'=>e=ρ (V I N)/\Below b.heap.size b w':=λb=>D ▸ y.out b
      replace y:=zD bD
      clear D bD
      go_wp2_with fail
      go_region_held3 (λb=>b.cell? ⟨g,m * 3,O⟩=W (V I a.k)/\b.cell? ⟨g,m * 3+1,O⟩=W (V I a.n)/\b.cell? ⟨g,m * 3+2,O⟩=W (U L)/\b.cell? ⟨g,k * 3,O⟩=W (V I p.k)/\b.cell? ⟨g,k * 3+1,O⟩=W (V I p.n)/\b.cell? ⟨g,k * 3+2,O⟩=W (U R)) (exact ac.out _ (by repeat (first|exact ξ _ _|assumption|refine Far.drew ?_|refine Far.alloc ?_ _|refine Far.drewN ?_ _))) (first|(go_at_call 28;refine(y.out wr.drew).mono ?_;rintro e C ⟨rfl,G⟩;have q:Far xO wr C:=((ξ _ wr).drew).below G))
      have c:=cT.out (λx ba=>by simp at ba;rw[<-ba];exact ab) C (by rw[cb.out];exact bk.out.far q (λe=>e));have ao:=zD (u.out.trans (q.mono (D':=(·=g)) (λ_ _ e=>e.elim)));have a6:=zD c;clear c q G
      go_wp2_with fail
      go_roundw
      case rel=>exact⟨i+1,by go_num,by omega,by omega,a6.out,ao.out⟩
      case measure=>simp[Lib.intOf];omega
  ·obtain rfl:i=f:=by omega
   have c:PR wr g ((yq id l).flatMap scs):=by
    rw[zR (by omega),List.drop_of_length_le (by omega)]at A
    simpa using A
   obtain⟨a6,u⟩:=zx2 c T;have ch:¬(i:Int) < (i:Int):=by omega
   clear c A T
   go_wp2_with fail
   go_end0
   exact⟨⟨_,rfl⟩,a6.out,u.out⟩
theorem CQ(l:List Tp.Sc)(g cap a:Nat)(q:l.length=a)(n:1<=a)(u:a < 20)(w:World)(j:PR w g (l.flatMap scs)):
 Calls π 43 #[Y (W ⟨g,0,O⟩) a cap,φ (.func 28) #[] #[]] w λe w'=>(∃c,e=ρ c)/\PR w' g ((yq id l).flatMap scs)/\Far (·=g) w w':=by
 have k:=CW l g cap a q n (by omega) w j;have o:=zD k;have t:¬(20:Int)<=(a:Int):=by omega
 have s:¬(20:Int) < (a:Int):=by omega
 have r:¬20<=a:=by omega
 have v:¬20 < a:=by omega
 clear k j
 go_enter func43,ntmps43
 go_wp2_with fail
 have p:Calls π 66 #[Y (W ⟨g,0,O⟩) a cap,V I (a:Int),φ (.func 28) #[] #[]] w λe w'=>(∃c,e=ρ c)/\PR w' g ((yq id l).flatMap scs)/\Far (·=g) w w':=by
  go_enter func66,ntmps66
  go_wp2_with fail
  refine wp_loop_rounds 1 ?_;rw[rounds_succ]
  go_wp2_with fail
  refine o.out.mono ?_;rintro e m ⟨⟨c,rfl⟩,b,d⟩;obtain⟨i,f⟩:=zx2 b d;clear b d
  go_wp2_with fail
  refine wp_loop_rounds 1 ?_;rw[rounds_succ]
  go_wp2_with fail
  go_end0
  exact⟨⟨_,rfl⟩,i.out,f.out⟩
 refine p.mono ?_;rintro e m ⟨⟨c,rfl⟩,b,d⟩;obtain⟨i,f⟩:=zx2 b d;clear b d
 go_wp2_with fail
 go_end0
 exact⟨⟨_,rfl⟩,i.out,f.out⟩
section
attribute [local go_sem] ak
theorem Df(v:Value)(c:∃a n b,v=Y a n b)(w:World):Calls π 27 #[v] w λe w'=>e=ρ (φ (.func 44) #[] #[Z (W ⟨w.heap.size,0,O⟩)])/\w'=w.alloc (J #[v] 28):=by
 obtain⟨a,n,b,rfl⟩:=c
 go_enter func27,ntmps27
 go_wp2
 go_ret
 exact⟨rfl,rfl⟩
theorem Dk(args:Array Value)(w:World):(callFunc 44 args).run π w=.ok (.enter 44 args) w:=by kernel_rfl
def ScE(c:List Tp.Sc)(t:Nat)(b:Array Value)(a:NS)(_:World):Prop:=(∃x,c[t]? =W x/\b=#[scV x])/\a=xO
theorem CL(i:List Tp.Sc)(v:Value)(f:NS)(G:Nat)(w:World)(a0:∀k,f k->k < w.heap.size)(c:Row w f i.length v (xV i))(p:w.heap[G]? =W (.cells #[v] 28 (0,0))):
 yQ π 44 #[Z (W ⟨G,0,O⟩)] 3 i.length (ScE i) xO (λk=>k=G\/f k) False (λ_ _=>True) (λ_=>True) w:=by
 intro l J ck ac S u bb hF0 C a6 b6 al b3
 replace p:=(u.block _ (lt_of_heap p)).trans p
 replace c:=c.below u
 obtain⟨base,ad⟩:∃bx,w.heap.size=bx:=⟨_,rfl⟩;rw[ad]at C a6;have a5:∀k,ac k->¬f k:=λk b=>λe=>(hF0 k b).2 (.inr e);obtain⟨a,bn,rfl,an⟩:=c.form;have b9:i.length<=9223372036854775807:=an;have bk:RowKit.Hid (∀k,f k->k < S.heap.size):=zD (λk r=>by have:=a0 k r;have:=u.size;omega);obtain⟨b2,a1,ba⟩:=zx3 C al a5;have a2:=zF p 0 rfl;obtain⟨d,P⟩:∃d,i.length=d:=⟨_,rfl⟩;rw[P]at b9 a2 a1 c;have ca:=zD c;rw[P];clear C a6 al a5 p c hF0 u bb ad b6 an a0
 go_enter func44,ntmps44
 go_wp2_with fail
 go_loopw [7] (λH wr=>∃(t:Nat) (j:NS),H=V I (t:Int)/\t<=d/\Row wr f d (Y a d bn) (xV i)/\J t j wr/\(∀k,j k->¬f k)/\S.heap.size<=wr.heap.size) (λH _=>d - (Lib.intOf H).toNat)
 case atStart=>exact⟨0,ac,rfl,z_ _,ca.out,b3,ba.out,η _⟩
 case round=>
  obtain⟨t,j,rfl,cT,c,y,L,c0⟩:=hrel;by_cases R:t < d
  ·obtain⟨x,E⟩:∃x,i[t]? =W x:=⟨_,zE (by rw[P];exact R)⟩
   obtain⟨g,o,cap,e,cl,cm,a2,co,be⟩:=c.sc E;injection e with e1 e2 e3;subst e1 e3;obtain⟨F,cb⟩:∃F,xR x.s=U F:=⟨_,rfl⟩;have b0:(t:Int) < (d:Int):=by omega
   have c3:(0:Int)<=(t:Int):=by omega
   have m:Far xO wr (wr.alloc (.cells #[V I x.k,V I x.n,xR x.s] 30)):=(ξ _ wr).alloc _;have N:=af wr (.cells #[V I x.k,V I x.n,xR x.s] 30);have D:=c.far m (λ_ _ _ e=>e);have a3:=b2.out _ j _ _ y (m.mono (λ_ _ e=>e.elim));have z:=a1.out t R j xO _ _ a3 ⟨⟨x,E,rfl⟩,rfl⟩ (λk b=>b.elim);unfold scV at z;rw[cb]at be N D z m;obtain⟨bs,bw,ab⟩:=zx3 z D L;obtain⟨bm,bD,b4,_⟩:=bv N;have ch:=m.size;clear c y L E D a3 z m N
   go_upto_region 3 with (fail)
   refine(wpIn_wide (n:=4)).1 ?_;generalize hqe:wr.heap.size=q at bm bD b4 ⊢;generalize (wr.alloc (.cells #[V I x.k,V I x.n,U F] 30))=cv at *;obtain⟨c4,c1,assign,body,ct,T⟩:=bs.out;have b5:=zD T;clear T
   gi_wp2
   refine(b5.out).mono ?_;rintro e cS ⟨M,⟨s,A⟩,(⟨rfl,a4⟩|⟨rfl,X⟩)⟩
   ·have ao:=bw.out.far s (λk r _ b=>ab.out k b r)
    have c2:=s.size;have av:∀k,M k->¬f k:=by
     intro k b;rcases A k b with b|b|b
     ·exact ab.out k b
     ·exact b.elim
     ·exact λr=>by have:=bk.out k r;omega
    obtain⟨b8,cc,b1⟩:=zx3 ao a4 av;clear ao a4 av A s
    gi_wp2
    go_wp2_with fail
    go_roundw
    case rel=>exact⟨t+1,M,rfl,by omega,b8.out,cc.out,b1.out,by omega⟩
    case measure=>simp[Lib.intOf];omega
   ·have cf:=zD X
    clear X s A
    gi_wp2
    go_wp2_with fail
    exact bodyPost_ret (results_none rfl _ _ _) rfl ⟨⟨_,rfl⟩,.inr ⟨M,cf.out⟩⟩
  ·have a9:t=d:=by omega
   have b0:¬(t:Int) < (d:Int):=by omega
   subst a9;have bq:=zD y;clear c y L
   go_wp2_with fail
   go_end0
   exact⟨⟨_,rfl⟩,.inl ⟨j,bq.out⟩⟩
end
section
attribute [local go_sem] ak
attribute [local go_sem] Oper.semAt_some
structure SlI(w:World)(q:Nat)(ks:List Tp.Sc)(t:Nat)(F:NS)(W:World):Prop where
 le:t<=ks.length
 row:∃(sa:Option Addr) (sn sc:Nat),(∀k,F k↔k=q\/(Value.slice sa sn sc).ownBlock=some k)/\W.heap[q]? =some (J #[Y sa sn sc] 28 (0,0))/\W.ownsRow (q+1) 30 3 (Y sa sn sc) t (xV (ks.take t))
 far:Far xO w W
theorem CZ(g:List Tp.Sc)(v:Value)(P:NS)(M:Nat)(w:World)(dr:g.length<=1000000)(ao:∀k,P k->k < w.heap.size)(b2:Row w P g.length v (xV g))(T:w.heap[M]? =W (J #[v] 28 (0,0))):
 Calls π 65 #[Y O 0 0,φ (.func 44) #[] #[Z (W ⟨M,0,O⟩)]] w λe w'=>(∃b c d,e=ρ (Y b c d)/\w'.ownsRow w.heap.size 30 3 (Y b c d) g.length (xV g))/\Below w.heap.size w w':=by
 obtain⟨ct,bx,ch,c6,cv⟩:=info_parts uG;obtain⟨q,A⟩:∃q,w.heap.size=q:=⟨_,rfl⟩;have c5:=lt_of_heap T;have F:Far xO w (w.alloc (J #[Y O 0 0] 28)):=(ξ _ w).alloc _;have b1:(w.alloc (J #[Y O 0 0] 28)).heap[q]? =W (J #[Y O 0 0] 28 (0,0)):=by rw[<-A];exact af w _
 have bq:(w.alloc (J #[Y O 0 0] 28)).heap.size=q+1:=by simp[A]
 have be:=CL g v P M _ (λk o=>zK (ao k o) F.size) (b2.far F (λ_ _ _ e=>e)) (F.heap T id);have ba:∀k,P k->k < q:=λk o=>A ▸ ao k o;have cl:=zD be;have db:RowKit.Hid (SlI w q g 0 (λk=>k=q\/(Value.slice O 0 0).ownBlock=W k) (w.alloc (J #[Y O 0 0] 28))):=zD ⟨z_ _,⟨O,0,0,λ_=>Iff.rfl,b1,World.ownsRow_nil _ _ _ _⟩,F⟩;obtain⟨z,H,a5⟩:=zx3 bq A ba;rw[A]at c5;clear be b2 ao F b1 bq ba T;refine callsIn_wide.1 (callsIn_of_wp_marks (n:=5) func65 rfl trivial (wpIn_wide.2 ?_));simp only[ntmps65,List.size_toArray,zO,List.length_nil,Nat.reduceAdd,Nat.reduceSub,Array.replicate_succ,Array.replicate_zero,List.push_toArray,List.append_toArray,List.nil_append,List.cons_append]
 go_wp2_with fail
 generalize (w.alloc (J #[Y O 0 0] 28))=dv at *;clear A;refine wpIn_wide.1 (aC (n:=5) (gf:=44) (lb:=#[Z (W ⟨M,0,O⟩)]) rfl (λargs wx=>Dk args wx)
  cl.out (λk e=>e.elim) (λk e=>by have:=z.out;rcases e with rfl|e;omega;have:=a5.out k e;omega) (λt v ck f a=>by obtain⟨⟨i,_,rfl⟩,_⟩:=a;rfl)
  (SlI w q g) (λ_ _ _=>False) (λk=>k=q\/(Value.slice O 0 0).ownBlock=W k) (λk a=>?hF0) db.out ?hI (λ_ _ _ _ a _=>a) (λ_ _ _ _=>trivial) (λ_ _ _ _=>trivial) ?round ?done (λ_ _ _ a=>a.elim))
 case hF0=>
  have o:k=q:=by
   rcases a with a|a
   ·exact a
   ·simp[Value.ownBlock]at a
  subst o;have:=z.out;exact⟨λe=>e,λe=>by rcases e with e|e;omega;have:=a5.out _ e;omega,by omega,by omega,λe=>e.elim⟩
 case hI=>
  rintro t X f c3 ⟨ad,⟨b,c,d,l,r,m⟩,s⟩ ac;refine⟨ad,⟨b,c,d,l,ac.heap r (λe=>e.1 ((l q).2 (.inl rfl))),am m ac (λk e a=>a.1 ((l k).2 (.inr e)))⟩,s.step ac (λi bx e=>?_)⟩;have:=z.out;have:=H.out;rcases e.2 with a|a
  ·exact a
  ·omega
 case round=>
  rintro t X ck c1 f K b4 bb ⟨ad,⟨b,c,d,l,r,m⟩,s⟩ ⟨⟨x,a6,rfl⟩,rfl⟩ df G C;have bR:=z.out;rw[bR]at bb G;obtain⟨SX,a9⟩:∃cf,xR x.s=U cf:=⟨_,rfl⟩;unfold scV;rw[a9]
  gi_wp2
  refine C _ _ ((ξ _ f).alloc _) ?_;intro u N _ _;rw[bR]at N;have c4:¬q=q+1+1:=by omega
  have bm:=af f (J #[V I x.k,V I x.n,U SX] 30);have cS:(f.alloc (J #[V I x.k,V I x.n,U SX] 30)).heap.size=f.heap.size+1:=by simp
  have av:=N.heap bm (by omega);obtain⟨p,a3⟩:∃p,f.heap.size=p:=⟨_,rfl⟩;have y:Far (·=q+1+1) f u:=((ξ _ f).alloc _).trans N;have S:=y.heap r c4;have R:=am m y (λk e a=>by have:=(G k ((l k).2 (.inr e))).2.1;omega);have bs:=s.step y (λk o e=>by have:=H.out;omega);have b8:=y.size;have c2:=zF S 0 rfl;have b0:xV (g.take (t+1))=xV (g.take t)++[V I x.k,V I x.n,U SX]:=by rw[zG,a6];simp[xV,a9]
  have a2:∀k,(Value.slice b c d).ownBlock=W k->q+1<=k/\k < f.heap.size:=λk e=>m.lt k e;rw[a3]at av b8 bb a2;obtain⟨dg,dj,ds,_⟩:=bv av;obtain⟨b6,a1,an,c9,bD,E⟩:=zx6 S R bs b0 a2 l;obtain⟨dA,dJ⟩:=zx2 y a3;have di:=lt_of_heap S;rw[a3];clear r m s S R bs b0 N C G a6 a2 l y bm cS av
  gi_wp2_with (gi_at_builtin;refine wpListIn_append_own_at _ rfl (.tmp 8) (.tmp 10) 28 rfl (q+1) 30 ct _ 3 32 underlying28 bx ch c6 cv rfl (by decide) (Y b c d) t _ rfl (am a1.out ((ξ xO u).alloc _) (λ_ _ e=>e)) ⟨u.heap.size,0,O⟩ 1 1 [V I x.k,V I x.n,U SX] rfl rfl (λj c1 ca=>by rw[gK];exact(ae (af u _) j).trans (by simpa using ca)) (by simp[Value.oneCell']) (by unfold maxLen;omega) (by omega) (by simp;omega) ?_;intro dp w5 a0 b3 _ bw;obtain⟨gg,cap,rfl,dl,_⟩:=aA a0;have ab:Far (λk=>(Value.slice b c d).ownBlock=W k) u w5:=(((ξ (λk=>(Value.slice b c d).ownBlock=W k) u).alloc _).grown b3 (λk e _=>e));have L:=ab.heap b6.out (λe=>by have:=(bD.out q e).1;omega);have dc:w5.cell? ⟨q,0,O⟩=W (Y b c d):=ae L 0;have dn:w5.frozen? ⟨q,0,O⟩=false:=ag L 0;have co:=zD L;have c0:=zD ab;have cb:=zD a0;have b9:=zD bw;clear L ab a0 b3 bw)
  have bk:Far (·=q) w5 (w5.setCell ⟨q,0,O⟩ (Y (W ⟨gg,0,O⟩) (t+1) cap)):=Far.setCell (D:=(·=q)) (ξ _ _) (p:=⟨q,0,O⟩) (λ_=>rfl) _;have b5:gg≠q:=by omega
  have al:=am cb.out bk (λk e a=>by injection e with e;exact b5 (e.trans a));rw[<-c9.out]at al;have bn:=(c0.out.mono (D':=X) (λk _ e=>(E.out k).2 (.inr e))).step bk (λk _ e=>(E.out k).2 (.inl e));have dC:gg < w5.heap.size:=(al.lt gg rfl).2 |> λa=>by simpa [World.setCell]using a
  have da:(Value.slice b c d).ownBlock=W gg\/u.heap.size<=gg:=by
   rcases b9.out with a|a
   ·left;rw[<-a];rfl
   ·right
    simp[Value.ownBlock]at a
    omega
  refine⟨λk=>k=q\/(Value.slice (W ⟨gg,0,O⟩) (t+1) cap).ownBlock=W k,⟨b4,⟨_,_,_,λ_=>Iff.rfl,ai co.out 0 _,al⟩,an.out.step bn (λk o e=>by
   have:=H.out;rcases (E.out k).1 e with a|a
   ·omega
   ·have:=(bD.out k a).1;omega)⟩,bn,λk a=>?_⟩
  rcases a with rfl|a
  ·exact⟨.inl ((E.out k).2 (.inl rfl)),λe=>e.elim⟩
  ·simp[Value.ownBlock]at a
   subst a;refine⟨?_,λe=>e.elim⟩;rcases da with a|a
   ·exact .inl ((E.out gg).2 (.inr a))
   ·exact .inr (.inr (by omega))
 case done=>
  rintro X f ⟨ad,⟨b,c,d,l,r,m⟩,s⟩ cT C G;rw[z.out]at C ⊢;rw[List.take_length]at m;have c2:=zF r 0 rfl;have cc:∀k,(Value.slice b c d).ownBlock=W k->k≠q+1:=λk e=>by have r:=G k ((l k).2 (.inr e));have:=z.out;omega
  obtain⟨a1,an,cm⟩:=zx3 m s C;clear r m s C cT
  go_wp2_with fail
  refine au (q:=q+1) rfl cm.out ?_;intro c3 a4;have R:=am a1.out a4 (λk e a=>cc k e a);have dm:=H.out;refine⟨Y b c d,by simp[results,results65,go_sem],⟨_,_,_,rfl,aW R (by omega)⟩,(an.out.step a4 (λk o e=>by omega)).to_below (η _) (λ_ _ e=>e)⟩
theorem Cx(b:Option Addr)(c:Nat)(w:World):Calls π 43 #[Y b 0 c,φ (.func 28) #[] #[]] w λe w'=>(∃a,e=ρ a)/\w'=w:=by
 have g:Calls π 97 #[Y b 0 c,V I 0,V I 0,φ (.func 28) #[] #[]] w λe w'=>(∃a,e=ρ a)/\w'=w:=by
  go_enter func97,ntmps97
  go_wp2_with fail
  refine wp_loop_rounds 1 ?_;rw[rounds_succ]
  go_wp2_with fail
  go_end0
  exact⟨⟨_,rfl⟩,rfl⟩
 have d:Calls π 66 #[Y b 0 c,V I 0,φ (.func 28) #[] #[]] w λe w'=>(∃a,e=ρ a)/\w'=w:=by
  go_enter func66,ntmps66
  go_wp2_with fail
  refine wp_loop_rounds 1 ?_;rw[rounds_succ]
  go_wp2_with fail
  refine g.mono ?_;rintro e f ⟨⟨a,rfl⟩,rfl⟩
  go_wp2_with fail
  refine wp_loop_rounds 1 ?_;rw[rounds_succ]
  go_wp2_with fail
  go_end0
  exact⟨⟨_,rfl⟩,rfl⟩
 go_enter func43,ntmps43
 go_wp2_with fail
 refine d.mono ?_;rintro e f ⟨⟨a,rfl⟩,rfl⟩
 go_wp2_with fail
 go_end0
 exact⟨⟨_,rfl⟩,rfl⟩
theorem CS(l:List Tp.Sc):l.flatMap scs=xV l:=rfl
theorem Dx(b:List Tp.Sc)(v:Value)(S:NS)(w:World)(bn:b.length < 20)(ad:∀k,S k->k < w.heap.size)(j:Row w S b.length v (xV b)):
 Calls π 10 #[v] w λe w'=>(∃m,e=ρ m/\Row w' (New w) b.length m (xV (Tp.sortK b)))/\Below w.heap.size w w':=by
 obtain⟨a,L,rfl,bb⟩:=j.form;have T:=Df (Y a b.length L) ⟨_,_,_,rfl⟩ w;have u:Below w.heap.size w (w.alloc (J #[Y a b.length L] 28)):=(ζ _ w).alloc (η _) _;have N:=CZ b _ S w.heap.size _ (by omega) (λk M=>zK (ad k M) u.size) (j.below u) (af w _);generalize hN:b.length=g at T u N ⊢;obtain⟨ao,o,F⟩:=zx3 T u N;clear T u N j bb ad
 go_enter func10,ntmps10
 go_wp2_with fail
 refine ao.out.mono ?_;rintro e bk ⟨rfl,rfl⟩;obtain⟨q,y⟩:∃q,w.heap.size=q:=⟨_,rfl⟩;have R:Calls π 26 #[φ (.func 44) #[] #[Z (W ⟨w.heap.size,0,O⟩)],φ (.func 28) #[] #[]] (w.alloc (J #[Y a g L] 28)) λe w'=>(∃m,e=ρ m/\Row w' (New w) g m (xV (Tp.sortK b)))/\Below w.heap.size w w':=by
  rw[y]at F ⊢;generalize (w.alloc (J #[Y a g L] 28))=p at *;have ab:Calls π 42 #[φ (.func 44) #[] #[Z (W ⟨q,0,O⟩)]] p λe w'=>(∃s A c,e=ρ (Y s A c)/\w'.ownsRow p.heap.size 30 3 (Y s A c) g (xV b))/\Below p.heap.size p w':=by
   go_enter func42,ntmps42
   go_wp2_with fail
   refine F.out.mono ?_;rintro e t ⟨⟨s,A,c,rfl,d⟩,f⟩;obtain⟨a9,P⟩:=zx2 d f;clear d f
   go_wp2_with fail
   go_ret
   exact⟨⟨_,_,_,rfl,a9.out⟩,P.out⟩
  have x:=zD ab;clear ab F
  go_enter func26,ntmps26
  go_wp2_with fail
  refine x.out.mono ?_;rintro e t ⟨⟨s,A,c,rfl,d⟩,f⟩;have H:Below w.heap.size w t:=o.out.trans (f.mono o.out.size);have bs:w.heap.size<=p.heap.size:=o.out.size;rcases Nat.eq_zero_or_pos g with E|E
  ·subst E
   have a4:b=[]:=List.length_eq_zero_iff.1 hN;subst a4;have a0:A=0:=by
    rcases d.2 with ⟨l,E⟩|⟨a5,a1,a6,l,_⟩
    ·injection l
    ·injection l
   subst a0;have r:=Cx s c t;obtain⟨G,C⟩:=zx2 r H;have D:Row t (New w) 0 (Y s 0 c) (xV (Tp.sortK [])):=(az d).mono (λk (M:p.heap.size<=k) _=>by show w.heap.size<=k;omega);have z:=zD D;clear r H d f o x D
   go_wp2_with fail
   refine G.out.mono ?_;rintro e ac ⟨⟨an,rfl⟩,rfl⟩
   go_wp2_with fail
   go_ret
   exact⟨⟨_,rfl,z.out⟩,by have:=C.out;rwa [y]at this⟩
  ·obtain⟨n,rfl⟩:∃n,g=n+1:=⟨g - 1,by omega⟩
   obtain⟨gg,cap,e,b0,bR⟩:=aA d;injection e with e1 e2 e3;subst e1 e2 e3;have r:=CQ b gg c (n+1) hN (by omega) (by omega) t (bK d);rw[Di,CS]at r;have be:n+1<=c/\c<=maxLen:=by
    rcases d.2 with ⟨l,E⟩|⟨a5,a1,a6,l,bx,bm,b1,bw,bD,b2⟩
    ·cases l
    ·injection l with h7 h8 h9
     subst h9;exact⟨by omega,by omega⟩
   obtain⟨G,C⟩:=zx2 r H;have a2:w.heap.size<=gg:=by omega
   clear r H d f o x
   go_wp2_with fail
   refine G.out.mono ?_;rintro e ac ⟨⟨an,rfl⟩,X,al⟩;have D:Row ac (New w) (n+1) (Y (W ⟨gg,0,O⟩) (n+1) c) (xV (Tp.sortK b)):=⟨_,gg,0,c,rfl,be,λ_=>a2,λ_=>⟨rfl,X.lt,λi an ba=>by rw[Nat.zero_add];exact X.cell ba⟩⟩;have av:=(C.out.trans (Far.to_below (B:=w.heap.size) al C.out.size (λk M e=>by omega)));obtain⟨z,a3⟩:=zx2 D av;clear D av X al G C
   go_wp2_with fail
   go_ret
   exact⟨⟨_,rfl,z.out⟩,by have:=a3.out;rwa [y]at this⟩
 rw[y]at R ⊢;have x:=zD R;clear R ao o F
 go_wp2_with fail
 refine x.out.mono ?_;rintro e t ⟨⟨m,rfl,j⟩,f⟩;obtain⟨z,P⟩:=zx2 j f;obtain⟨bq,b3,rfl,_⟩:=j.form;clear j f
 go_wp2_with fail
 go_ret
 exact⟨⟨_,rfl,z.out⟩,by rw[y];exact P.out⟩
end
section
open Go.RowKit Go.Extern.Stop Go.Stop Go.Extern
theorem rlm(z:Sem Value)(b:TypeId->Addr->Nat->Nat->Sem Value)(v:Value):
 ReflectliteValue.method z b #[v]=(do match <-ReflectliteValue.parts v with|none=>z|some (t,a,fl)=>b t a fl (fl % 32)):=rfl
theorem Bs(a:Value)(w:World):(Go.method 653 233 (γ #[a]) "Kind").run π w=.ok (359,a) w:=by kernel_rfl
theorem Bt(a:Value)(w:World):(Go.method 653 233 (γ #[a]) "Elem").run π w=.ok (376,γ #[a]) w:=by kernel_rfl
theorem Bh(a:Value)(w:World):(Go.method 653 233 (γ #[a]) "Implements").run π w=.ok (377,γ #[a]) w:=by kernel_rfl
theorem A1(a:Value)(w:World):(Go.method 653 233 (γ #[a]) "AssignableTo").run π w=.ok (374,γ #[a]) w:=by kernel_rfl
theorem rls(v x:Value):ReflectliteValue.set #[v,x]=(do
 let (W (dst,a,fl),W (src,b,_)):=(<-ReflectliteValue.parts v,<-ReflectliteValue.parts x)
  |unsupported (.noEntry "extern/(internal/reflectlite.Value).Set.zeroValue")
 if fl / ReflectliteValue.flagAddr % 2==0 then unsupported (.noEntry "extern/(internal/reflectlite.Value).Set.unaddressable")
 let val <-loadVar src b
 if <-Rtype.directlyAssignable dst src then storeVar dst a val
 else if <-Rtype.implements dst src then
  if (<-Rtype.kind src)==20 then
   match val with
   | .nilIface=>unsupported (.noEntry "extern/reflectlite: a nil value of one interface type handed on as a value of another")
   |_=>storeVar dst a val
  else storeVar dst a (.iface src val)
 else panicString ("reflectlite.Set: value of type "++(<-Rtype.spelt src)++ " is not assignable to type "++(<-Rtype.spelt dst))
 pure (.tuple #[])):=rfl
theorem Ck(t:Addr)(w:World):(ReflectliteValue.unpack (.iface 231 (Z (W t)))).run π w=.ok (γ #[Z (W ⟨10,231,O⟩),Z (W ⟨w.heap.size,0,O⟩),V .u64 150]) (w.alloc (J #[Z (W t)] 231)):=by kernel_rfl
theorem Do(a:Addr)(w:World):(ReflectliteValue.methodAny (ReflectliteValue.valueError "reflectlite.Value.Type" 0) (λt _ _ _=>ReflectliteType.toType t) #[γ #[Z (W ⟨10,231,O⟩),Z (W a),V .u64 150]]).run π w=.ok (.iface 233 (γ #[Z (W ⟨10,231,O⟩)])) w:=by kernel_rfl
theorem Dq(w:World):((ReflectliteType.abiMethod λt=>(λa:Nat=>Value.int IntKind.u8 (a:Int)) <$> Rtype.kind t) #[Z (W ⟨10,231,O⟩)]).run π w=.ok (V .u8 22) w:=by kernel_rfl
theorem Ds(w:World):((ReflectliteType.abiMethod λt=>(λa:Nat=>Value.int IntKind.u8 (a:Int)) <$> Rtype.kind t) #[Z (W ⟨10,229,O⟩)]).run π w=.ok (V .u8 25) w:=by kernel_rfl
theorem Cb(a:Addr)(w:World):(ReflectliteValue.parts (γ #[Z (W ⟨10,231,O⟩),Z (W a),V .u64 150])).run π w=.ok (W (231,a,150)) w:=by kernel_rfl
theorem Dd(a p:Addr)(b:World)(c:b.cell? a=W (Z (W p))):(ReflectliteValue.method (ReflectliteValue.valueError "reflectlite.Value.IsNil" 0) ReflectliteValue.isNil #[γ #[Z (W ⟨10,231,O⟩),Z (W a),V .u64 150]]).run π b=.ok (β false) b:=by
 rw[rlm];simp only[Sem.run_bind,Cb,Result.andThen];simp[ReflectliteValue.isNil,loadVar,isAgg,underlying,underlying231,c,Result.andThen]
theorem Dw(w:World):(ReflectliteType.method ReflectliteType.elem #[γ #[Z (W ⟨10,231,O⟩)]]).run π w=.ok (.iface 233 (γ #[Z (W ⟨10,229,O⟩)])) w:=by kernel_rfl
theorem BG(w:World):(ReflectliteType.relation "Implements" ReflectliteType.implements_ #[γ #[Z (W ⟨10,229,O⟩)],.iface 233 (γ #[Z (W ⟨10,41,O⟩)])]).run π w=.ok (β true) w:=by kernel_rfl
theorem CF(v:Value)(w:World):(ReflectliteType.typeOf #[.iface 229 v]).run π w=.ok (.iface 233 (γ #[Z (W ⟨10,229,O⟩)])) w:=by kernel_rfl
theorem BI(w:World):(ReflectliteType.relation "AssignableTo" ReflectliteType.assignableTo #[γ #[Z (W ⟨10,229,O⟩)],.iface 233 (γ #[Z (W ⟨10,229,O⟩)])]).run π w=.ok (β true) w:=by kernel_rfl
theorem Cm(a:Int)(w:World):(ReflectliteValue.unpack (.iface 229 (γ #[V I a]))).run π w=.ok (γ #[Z (W ⟨10,229,O⟩),Z (W ⟨w.heap.size,0,O⟩),V .u64 153]) (w.alloc (J #[V I a] 229)):=by kernel_rfl
theorem CH(w:World):(Rtype.elem? 231).run π w=.ok (W 229) w:=by kernel_rfl
theorem DL(p:Addr)(w:World):(ReflectliteValue.mk 229 p ReflectliteValue.flagAddr).run π w=.ok (γ #[Z (W ⟨10,229,O⟩),Z (W p),V .u64 409]) w:=by kernel_rfl
theorem Du(a p:Addr)(b:World)(c:b.cell? a=W (Z (W p))):(ReflectliteValue.method (ReflectliteValue.valueError "reflectlite.Value.Elem" 0) ReflectliteValue.elem #[γ #[Z (W ⟨10,231,O⟩),Z (W a),V .u64 150]]).run π b=.ok (γ #[Z (W ⟨10,229,O⟩),Z (W p),V .u64 409]) b:=by
 rw[rlm];simp only[Sem.run_bind,Cb,Result.andThen];simp[ReflectliteValue.elem,loadVar,isAgg,underlying,underlying231,c,Result.andThen,CH,DL]
theorem Db(a:Addr)(w:World):(ReflectliteValue.parts (γ #[Z (W ⟨10,229,O⟩),Z (W a),V .u64 409])).run π w=.ok (W (229,a,409)) w:=by kernel_rfl
theorem C9(a:Addr)(w:World):(ReflectliteValue.parts (γ #[Z (W ⟨10,229,O⟩),Z (W a),V .u64 153])).run π w=.ok (W (229,a,153)) w:=by kernel_rfl
theorem CJ(w:World):(Rtype.directlyAssignable 229 229).run π w=.ok true w:=by kernel_rfl
theorem DE(t d:Nat)(c:Int)(a:World){f:Value}(l:a.heap[d]? =W (J #[V I c] 229 (0,0)))(e:a.heap[t]? =W (J #[f] 229 (0,0))):(ReflectliteValue.set #[γ #[Z (W ⟨10,229,O⟩),Z (W ⟨t,0,O⟩),V .u64 409],γ #[Z (W ⟨10,229,O⟩),Z (W ⟨d,0,O⟩),V .u64 153]]).run π a=.ok (.tuple #[]) (a.setCell ⟨t,0,O⟩ (V I c)):=by
 have g:=zF l 0 rfl;have i:(loadCells ⟨d,0,O⟩ 1).run π a=.ok #[V I c] a:=by
  have k:=run_loadCells_list (P:=π) a ⟨d,0,O⟩ [V I c] (by
   intro j v b
   match j,b with
   |0,b=>simp at b;subst b;simpa [Addr.add]using g
   |j+1,b=>simp at b)
  simpa using k
 have m:=ae e 0;have n:=ag e 0;rw[rls];simp only[Sem.run_bind,Db,C9,Result.andThen];simp[ReflectliteValue.flagAddr,loadVar,isAgg,underlying,underlying229,Result.andThen,CJ,storeVar,Value.cells,storeCells,Addr.add]
 rw[i];simp[storeCells,Addr.add]
 rw[run_store π a ⟨t,0,O⟩ _ _ (by rfl)];simp[m,n,Result.andThen]
theorem DC(a:Int)(t:Nat)(w:World){j:Value}(e:w.cell? ⟨2,0,O⟩=W (.iface 233 (γ #[Z (W ⟨10,41,O⟩)])))(g:2 < w.heap.size)(c:w.heap[t]? =W (J #[j] 229 (0,0))):
 Calls π 56 #[.iface 229 (γ #[V I a]),.iface 231 (Z (W ⟨t,0,O⟩))] w λf w'=>f=ρ (β true)/\Far (·=t) w w'/\w'.heap[t]? =W (J #[V I a] 229 (0,0)):=by
 have q:=lt_of_heap c;have H:=@run_callFunc_extern π 78 _ (λargs=>ReflectliteValue.unpack (args.getD 0 (.tuple #[]))) func78 (by kernel_rfl) (by kernel_rfl) (by kernel_rfl) (by kernel_rfl);have M:=@run_callFunc_extern π 79 _ (ReflectliteValue.methodAny (ReflectliteValue.valueError "reflectlite.Value.Type" 0) (λt _ _ _=>ReflectliteType.toType t)) func79 (by kernel_rfl) (by kernel_rfl) (by kernel_rfl) (by kernel_rfl);have E:=@run_callFunc_extern π 80 _ (ReflectliteValue.method (ReflectliteValue.valueError "reflectlite.Value.IsNil" 0) ReflectliteValue.isNil) func80 (by kernel_rfl) (by kernel_rfl) (by kernel_rfl) (by kernel_rfl);have m:=@run_callFunc_extern π 359 _ (ReflectliteType.abiMethod λt=>do pure (V .u8 (<-Rtype.kind t))) func359 (by kernel_rfl) (by kernel_rfl) (by kernel_rfl) (by kernel_rfl);have l:=@run_callFunc_extern π 376 _ (ReflectliteType.method ReflectliteType.elem) func376 (by kernel_rfl) (by kernel_rfl) (by kernel_rfl) (by kernel_rfl);have T:=@run_callFunc_extern π 377 _ (ReflectliteType.relation "Implements" ReflectliteType.implements_) func377 (by kernel_rfl) (by kernel_rfl) (by kernel_rfl) (by kernel_rfl);have o:=@run_callFunc_extern π 113 _ ReflectliteType.typeOf func113 (by kernel_rfl) (by kernel_rfl) (by kernel_rfl) (by kernel_rfl);have y:=@run_callFunc_extern π 374 _ (ReflectliteType.relation "AssignableTo" ReflectliteType.assignableTo) func374 (by kernel_rfl) (by kernel_rfl) (by kernel_rfl) (by kernel_rfl);have C:=@run_callFunc_extern π 114 _ (ReflectliteValue.method (ReflectliteValue.valueError "reflectlite.Value.Elem" 0) ReflectliteValue.elem) func114 (by kernel_rfl) (by kernel_rfl) (by kernel_rfl) (by kernel_rfl);have u:=@run_callFunc_extern π 115 _ ReflectliteValue.set func115 (by kernel_rfl) (by kernel_rfl) (by kernel_rfl) (by kernel_rfl);have ab:=CF;have R:=A1;have s:=BI;have n:=Cm;have X:=Ck;have S:=Do;have G:=Bs;have r:=Bt;have k:=Bh;have L:=Dq;have A:=Ds;have x:=Dw;have F:=BG;have N:=Dd ⟨w.heap.size,0,O⟩ ⟨t,0,O⟩ ((w.alloc (J #[Z (W ⟨t,0,O⟩)] 231)).alloc (J #[Z (W ⟨10,231,O⟩),Z (W ⟨w.heap.size,0,O⟩),V .u64 150] 164)) (by simp);have z:((w.alloc (J #[Z (W ⟨t,0,O⟩)] 231)).alloc (J #[Z (W ⟨10,231,O⟩),Z (W ⟨w.heap.size,0,O⟩),V .u64 150] 164)).cell? ⟨2,0,O⟩=W (.iface 233 (γ #[Z (W ⟨10,41,O⟩)])):=by
  exact aK (by simp;omega) (aK g e)
 have v:=Du ⟨w.heap.size,0,O⟩ ⟨t,0,O⟩ (((w.alloc (J #[Z (W ⟨t,0,O⟩)] 231)).alloc (J #[Z (W ⟨10,231,O⟩),Z (W ⟨w.heap.size,0,O⟩),V .u64 150] 164)).alloc (J #[Z (W ⟨10,231,O⟩),Z (W ⟨w.heap.size,0,O⟩),V .u64 150] 164)) (by rw[World.cell?_alloc_lt _ _ ⟨w.heap.size,0,O⟩ (by simp;omega)];simp);have b:=aa (J #[V I a] 229) (aa (J #[Z (W ⟨10,231,O⟩),Z (W ⟨w.heap.size,0,O⟩),V .u64 150] 164) (aa (J #[Z (W ⟨10,231,O⟩),Z (W ⟨w.heap.size,0,O⟩),V .u64 150] 164) (aa (J #[Z (W ⟨t,0,O⟩)] 231) c)));have P:=DE t (w.heap.size+1+1+1) a ((((w.alloc (J #[Z (W ⟨t,0,O⟩)] 231)).alloc (J #[Z (W ⟨10,231,O⟩),Z (W ⟨w.heap.size,0,O⟩),V .u64 150] 164)).alloc (J #[Z (W ⟨10,231,O⟩),Z (W ⟨w.heap.size,0,O⟩),V .u64 150] 164)).alloc (J #[V I a] 229)) (ah _ _ _ (by simp)) b;have d:Far (·=t) w (((((w.alloc (J #[Z (W ⟨t,0,O⟩)] 231)).alloc (J #[Z (W ⟨10,231,O⟩),Z (W ⟨w.heap.size,0,O⟩),V .u64 150] 164)).alloc (J #[Z (W ⟨10,231,O⟩),Z (W ⟨w.heap.size,0,O⟩),V .u64 150] 164)).alloc (J #[V I a] 229)).setCell ⟨t,0,O⟩ (V I a))/\(((((w.alloc (J #[Z (W ⟨t,0,O⟩)] 231)).alloc (J #[Z (W ⟨10,231,O⟩),Z (W ⟨w.heap.size,0,O⟩),V .u64 150] 164)).alloc (J #[Z (W ⟨10,231,O⟩),Z (W ⟨w.heap.size,0,O⟩),V .u64 150] 164)).alloc (J #[V I a] 229)).setCell ⟨t,0,O⟩ (V I a)).heap[t]? =W (J #[V I a] 229 (0,0)):=⟨(Far.setCell (D:=(·=t)) (p:=⟨t,0,O⟩) (((((ξ _ _).alloc _).alloc _).alloc _).alloc _) (λ_=>rfl) _),(ai b 0 _)⟩;have i:=zD d;clear d b c
 go_enter func56,ntmps56
 go_wp2
 refine wp_loop_rounds 1 ?_;rw[rounds_succ]
 go_wp2
 go_ret
 exact⟨rfl,i.out⟩
theorem Cj(t:Addr)(w:World):(ReflectliteValue.unpack (.iface 111 (Z (W t)))).run π w=.ok (γ #[Z (W ⟨10,111,O⟩),Z (W ⟨w.heap.size,0,O⟩),V .u64 150]) (w.alloc (J #[Z (W t)] 111)):=by kernel_rfl
theorem Dn(a:Addr)(w:World):(ReflectliteValue.methodAny (ReflectliteValue.valueError "reflectlite.Value.Type" 0) (λt _ _ _=>ReflectliteType.toType t) #[γ #[Z (W ⟨10,111,O⟩),Z (W a),V .u64 150]]).run π w=.ok (.iface 233 (γ #[Z (W ⟨10,111,O⟩)])) w:=by kernel_rfl
theorem Dp(w:World):((ReflectliteType.abiMethod λt=>(λa:Nat=>Value.int IntKind.u8 (a:Int)) <$> Rtype.kind t) #[Z (W ⟨10,111,O⟩)]).run π w=.ok (V .u8 22) w:=by kernel_rfl
theorem Dr(w:World):((ReflectliteType.abiMethod λt=>(λa:Nat=>Value.int IntKind.u8 (a:Int)) <$> Rtype.kind t) #[Z (W ⟨10,109,O⟩)]).run π w=.ok (V .u8 25) w:=by kernel_rfl
theorem Ca(a:Addr)(w:World):(ReflectliteValue.parts (γ #[Z (W ⟨10,111,O⟩),Z (W a),V .u64 150])).run π w=.ok (W (111,a,150)) w:=by kernel_rfl
theorem Dc(a p:Addr)(b:World)(c:b.cell? a=W (Z (W p))):(ReflectliteValue.method (ReflectliteValue.valueError "reflectlite.Value.IsNil" 0) ReflectliteValue.isNil #[γ #[Z (W ⟨10,111,O⟩),Z (W a),V .u64 150]]).run π b=.ok (β false) b:=by
 rw[rlm];simp only[Sem.run_bind,Ca,Result.andThen];simp[ReflectliteValue.isNil,loadVar,isAgg,underlying,underlying111,c,Result.andThen]
theorem Dv(w:World):(ReflectliteType.method ReflectliteType.elem #[γ #[Z (W ⟨10,111,O⟩)]]).run π w=.ok (.iface 233 (γ #[Z (W ⟨10,109,O⟩)])) w:=by kernel_rfl
theorem BF(w:World):(ReflectliteType.relation "Implements" ReflectliteType.implements_ #[γ #[Z (W ⟨10,109,O⟩)],.iface 233 (γ #[Z (W ⟨10,41,O⟩)])]).run π w=.ok (β true) w:=by kernel_rfl
theorem CE(v:Value)(w:World):(ReflectliteType.typeOf #[.iface 109 v]).run π w=.ok (.iface 233 (γ #[Z (W ⟨10,109,O⟩)])) w:=by kernel_rfl
theorem BH(w:World):(ReflectliteType.relation "AssignableTo" ReflectliteType.assignableTo #[γ #[Z (W ⟨10,109,O⟩)],.iface 233 (γ #[Z (W ⟨10,109,O⟩)])]).run π w=.ok (β true) w:=by kernel_rfl
theorem Cl(a b:Int)(w:World):(ReflectliteValue.unpack (.iface 109 (γ #[V I a,V I b]))).run π w=.ok (γ #[Z (W ⟨10,109,O⟩),Z (W ⟨w.heap.size,0,O⟩),V .u64 153]) (w.alloc (J #[V I a,V I b] 109)):=by kernel_rfl
theorem CG(w:World):(Rtype.elem? 111).run π w=.ok (W 109) w:=by kernel_rfl
theorem DK(p:Addr)(w:World):(ReflectliteValue.mk 109 p ReflectliteValue.flagAddr).run π w=.ok (γ #[Z (W ⟨10,109,O⟩),Z (W p),V .u64 409]) w:=by kernel_rfl
theorem Dt(a p:Addr)(b:World)(c:b.cell? a=W (Z (W p))):(ReflectliteValue.method (ReflectliteValue.valueError "reflectlite.Value.Elem" 0) ReflectliteValue.elem #[γ #[Z (W ⟨10,111,O⟩),Z (W a),V .u64 150]]).run π b=.ok (γ #[Z (W ⟨10,109,O⟩),Z (W p),V .u64 409]) b:=by
 rw[rlm];simp only[Sem.run_bind,Ca,Result.andThen];simp[ReflectliteValue.elem,loadVar,isAgg,underlying,underlying111,c,Result.andThen,CG,DK]
theorem Da(a:Addr)(w:World):(ReflectliteValue.parts (γ #[Z (W ⟨10,109,O⟩),Z (W a),V .u64 409])).run π w=.ok (W (109,a,409)) w:=by kernel_rfl
theorem C8(a:Addr)(w:World):(ReflectliteValue.parts (γ #[Z (W ⟨10,109,O⟩),Z (W a),V .u64 153])).run π w=.ok (W (109,a,153)) w:=by kernel_rfl
theorem CI(w:World):(Rtype.directlyAssignable 109 109).run π w=.ok true w:=by kernel_rfl
theorem DD(t d:Nat)(c e:Int)(b:World){r p:Value}(g:b.heap[d]? =W (J #[V I c,V I e] 109 (0,0)))(f:b.heap[t]? =W (J #[r,p] 109 (0,0))):(ReflectliteValue.set #[γ #[Z (W ⟨10,109,O⟩),Z (W ⟨t,0,O⟩),V .u64 409],γ #[Z (W ⟨10,109,O⟩),Z (W ⟨d,0,O⟩),V .u64 153]]).run π b=.ok (.tuple #[]) ((b.setCell ⟨t,0,O⟩ (V I c)).setCell ⟨t,1,O⟩ (V I e)):=by
 have n:=zF g 0 rfl;have k:=zF g 1 rfl;have q:(loadCells ⟨d,0,O⟩ 2).run π b=.ok #[V I c,V I e] b:=by
  have s:=run_loadCells_list (P:=π) b ⟨d,0,O⟩ [V I c,V I e] (by
   intro j v a
   match j,a with
   |0,a=>simp at a;subst a;simpa [Addr.add]using n
   |1,a=>simp at a;subst a;simpa [Addr.add]using k
   |j+2,a=>simp at a)
  simpa using s
 have u:=ae f 0;have l:=ag f 0;have i:=ai f 0 (V I c);have o:=ae i 1;have m:=ag i 1;rw[rls];simp only[Sem.run_bind,Da,C8,Result.andThen];simp[ReflectliteValue.flagAddr,loadVar,isAgg,underlying,underlying109,Result.andThen,CI,storeVar,Value.cells,storeCells,Addr.add]
 rw[q];simp[storeCells,Addr.add]
 rw[run_store π b ⟨t,0,O⟩ _ _ (by rfl)];simp[u,l,Result.andThen]
 rw[run_store π _ ⟨t,1,O⟩ _ _ (by rfl)];simp[o,m,Result.andThen]
theorem DB(a b:Int)(t:Nat)(w:World){l j:Value}(f:w.cell? ⟨2,0,O⟩=W (.iface 233 (γ #[Z (W ⟨10,41,O⟩)])))(i:2 < w.heap.size)(d:w.heap[t]? =W (J #[l,j] 109 (0,0))):
 Calls π 56 #[.iface 109 (γ #[V I a,V I b]),.iface 111 (Z (W ⟨t,0,O⟩))] w λg w'=>g=ρ (β true)/\Far (·=t) w w'/\w'.heap[t]? =W (J #[V I a,V I b] 109 (0,0)):=by
 have s:=lt_of_heap d;have M:=@run_callFunc_extern π 78 _ (λargs=>ReflectliteValue.unpack (args.getD 0 (.tuple #[]))) func78 (by kernel_rfl) (by kernel_rfl) (by kernel_rfl) (by kernel_rfl);have P:=@run_callFunc_extern π 79 _ (ReflectliteValue.methodAny (ReflectliteValue.valueError "reflectlite.Value.Type" 0) (λt _ _ _=>ReflectliteType.toType t)) func79 (by kernel_rfl) (by kernel_rfl) (by kernel_rfl) (by kernel_rfl);have G:=@run_callFunc_extern π 80 _ (ReflectliteValue.method (ReflectliteValue.valueError "reflectlite.Value.IsNil" 0) ReflectliteValue.isNil) func80 (by kernel_rfl) (by kernel_rfl) (by kernel_rfl) (by kernel_rfl);have o:=@run_callFunc_extern π 359 _ (ReflectliteType.abiMethod λt=>do pure (V .u8 (<-Rtype.kind t))) func359 (by kernel_rfl) (by kernel_rfl) (by kernel_rfl) (by kernel_rfl);have n:=@run_callFunc_extern π 376 _ (ReflectliteType.method ReflectliteType.elem) func376 (by kernel_rfl) (by kernel_rfl) (by kernel_rfl) (by kernel_rfl);have ab:=@run_callFunc_extern π 377 _ (ReflectliteType.relation "Implements" ReflectliteType.implements_) func377 (by kernel_rfl) (by kernel_rfl) (by kernel_rfl) (by kernel_rfl);have r:=@run_callFunc_extern π 113 _ ReflectliteType.typeOf func113 (by kernel_rfl) (by kernel_rfl) (by kernel_rfl) (by kernel_rfl);have A:=@run_callFunc_extern π 374 _ (ReflectliteType.relation "AssignableTo" ReflectliteType.assignableTo) func374 (by kernel_rfl) (by kernel_rfl) (by kernel_rfl) (by kernel_rfl);have F:=@run_callFunc_extern π 114 _ (ReflectliteValue.method (ReflectliteValue.valueError "reflectlite.Value.Elem" 0) ReflectliteValue.elem) func114 (by kernel_rfl) (by kernel_rfl) (by kernel_rfl) (by kernel_rfl);have x:=@run_callFunc_extern π 115 _ ReflectliteValue.set func115 (by kernel_rfl) (by kernel_rfl) (by kernel_rfl) (by kernel_rfl);have ad:=CE;have T:=A1;have v:=BH;have q:=Cl;have ac:=Cj;have X:=Dn;have L:=Bs;have u:=Bt;have m:=Bh;have N:=Dp;have E:=Dr;have z:=Dv;have H:=BF;have R:=Dc ⟨w.heap.size,0,O⟩ ⟨t,0,O⟩ ((w.alloc (J #[Z (W ⟨t,0,O⟩)] 111)).alloc (J #[Z (W ⟨10,111,O⟩),Z (W ⟨w.heap.size,0,O⟩),V .u64 150] 164)) (by simp);have C:((w.alloc (J #[Z (W ⟨t,0,O⟩)] 111)).alloc (J #[Z (W ⟨10,111,O⟩),Z (W ⟨w.heap.size,0,O⟩),V .u64 150] 164)).cell? ⟨2,0,O⟩=W (.iface 233 (γ #[Z (W ⟨10,41,O⟩)])):=by
  exact aK (by simp;omega) (aK i f)
 have y:=Dt ⟨w.heap.size,0,O⟩ ⟨t,0,O⟩ (((w.alloc (J #[Z (W ⟨t,0,O⟩)] 111)).alloc (J #[Z (W ⟨10,111,O⟩),Z (W ⟨w.heap.size,0,O⟩),V .u64 150] 164)).alloc (J #[Z (W ⟨10,111,O⟩),Z (W ⟨w.heap.size,0,O⟩),V .u64 150] 164)) (by rw[World.cell?_alloc_lt _ _ ⟨w.heap.size,0,O⟩ (by simp;omega)];simp);have c:=aa (J #[V I a,V I b] 109) (aa (J #[Z (W ⟨10,111,O⟩),Z (W ⟨w.heap.size,0,O⟩),V .u64 150] 164) (aa (J #[Z (W ⟨10,111,O⟩),Z (W ⟨w.heap.size,0,O⟩),V .u64 150] 164) (aa (J #[Z (W ⟨t,0,O⟩)] 111) d)));have S:=DD t (w.heap.size+1+1+1) a b ((((w.alloc (J #[Z (W ⟨t,0,O⟩)] 111)).alloc (J #[Z (W ⟨10,111,O⟩),Z (W ⟨w.heap.size,0,O⟩),V .u64 150] 164)).alloc (J #[Z (W ⟨10,111,O⟩),Z (W ⟨w.heap.size,0,O⟩),V .u64 150] 164)).alloc (J #[V I a,V I b] 109)) (ah _ _ _ (by simp)) c;have e:Far (·=t) w ((((((w.alloc (J #[Z (W ⟨t,0,O⟩)] 111)).alloc (J #[Z (W ⟨10,111,O⟩),Z (W ⟨w.heap.size,0,O⟩),V .u64 150] 164)).alloc (J #[Z (W ⟨10,111,O⟩),Z (W ⟨w.heap.size,0,O⟩),V .u64 150] 164)).alloc (J #[V I a,V I b] 109)).setCell ⟨t,0,O⟩ (V I a)).setCell ⟨t,1,O⟩ (V I b))/\((((((w.alloc (J #[Z (W ⟨t,0,O⟩)] 111)).alloc (J #[Z (W ⟨10,111,O⟩),Z (W ⟨w.heap.size,0,O⟩),V .u64 150] 164)).alloc (J #[Z (W ⟨10,111,O⟩),Z (W ⟨w.heap.size,0,O⟩),V .u64 150] 164)).alloc (J #[V I a,V I b] 109)).setCell ⟨t,0,O⟩ (V I a)).setCell ⟨t,1,O⟩ (V I b)).heap[t]? =W (J #[V I a,V I b] 109 (0,0)):=⟨(Far.setCell (D:=(·=t)) (p:=⟨t,1,O⟩) (Far.setCell (D:=(·=t)) (p:=⟨t,0,O⟩) (((((ξ _ _).alloc _).alloc _).alloc _).alloc _) (λ_=>rfl) _) (λ_=>rfl) _),(ai (ai c 0 _) 1 _)⟩;have k:=zD e;clear e c d
 go_enter func56,ntmps56
 go_wp2
 refine wp_loop_rounds 1 ?_;rw[rounds_succ]
 go_wp2
 go_ret
 exact⟨rfl,k.out⟩
end
section
open Go.RowKit Go.Extern.Stop Go.Stop Go.Extern Go.Extern.Rtype
def DZ(w:World):Prop:=10<=w.heap.size/\(∃a:Addr,w.cell? ⟨3,0,O⟩=W (.iface 522 (Z (W a))))/\w.cell? ⟨2,0,O⟩=W (.iface 233 (γ #[Z (W ⟨10,41,O⟩)]))
theorem DZ.far{w w':World}{D:NS}(d:DZ w)(b:Far D w w')(c:∀k,k < 10->¬D k):DZ w':=by
 obtain⟨f,⟨a,e⟩,g⟩:=d;exact⟨Nat.le_trans f b.size,⟨a,b.at e (c 3 (by omega))⟩,b.at g (c 2 (by omega))⟩
theorem DZ.below{w w':World}(a:DZ w)(b:Below w.heap.size w w'):DZ w':=a.far (Far.of_below b xO) (λ_ _ e=>e)
def D7:Array Value->Sem Value:=Extern.ReflectliteType.method λt=>do noPackHeld "Comparable" t;pure (β (<-typeInfo t).comparable)
theorem B6(w:World):(D7 #[γ #[Z (W ⟨10,522,O⟩)]]).run π w=.ok (β true) w:=by kernel_rfl
theorem Dj(v:Value)(w:World):(Extern.ReflectliteType.typeOf #[.iface 522 v]).run π w=.ok (.iface 233 (γ #[Z (W ⟨10,522,O⟩)])) w:=by kernel_rfl
theorem Bn(v:Value)(w:World):(Go.method 653 233 v "Comparable").run π w=.ok (375,v) w:=by kernel_rfl
theorem BD(v:Value)(w:World):(Go.method 653 229 v "Unwrap").run π w=.ok (372,v) w:=by kernel_rfl
theorem DI:(prog.info? 522).map (·.comparable)=W true:=by kernel_rfl
theorem DH:(prog.info? 524).isSome=true:=by kernel_rfl
theorem DT(v:Value)(w:World):(Instr.typeAssert (.iface 229 v) 41 379 true).run π w=.ok (.tuple #[.nilIface,β false]) w:=run_typeAssert_lacksB underlying379 (by kernel_rfl) (by kernel_rfl) v 41 w
theorem DA(m:Int)(w:World):(Instr.typeAssert (.iface 229 (γ #[V I m])) 41 241 true).run π w=.ok (.tuple #[.iface 229 (γ #[V I m]),β true]) w:=by kernel_rfl
theorem CM(m:Int)(v:Value)(w:World)(a:w.cell? ⟨3,0,O⟩=W v)(b:3 < w.heap.size):Calls π 372 #[γ #[V I m]] w λe w'=>e=ρ v/\w'=w.alloc (J #[V I m] 229):=by
 have c3:∀o:Obj,(w.alloc o).cell? ⟨3,0,O⟩=W v:=λo=>(World.cell?_alloc_lt w o ⟨3,0,O⟩ b).trans a
 go_enter func372,ntmps372
 go_wp2
 go_ret
 exact⟨rfl,rfl⟩
theorem DG(m:Int)(a:Addr)(w:World)(b:w.cell? ⟨3,0,O⟩=W (.iface 522 (Z (W a))))(k:3 < w.heap.size):
 Calls π 112 #[.iface 229 (γ #[V I m]),.iface 522 (Z (W a))] w λe w'=>e=ρ (β true)/\w'=w.alloc (J #[V I m] 229):=by
 obtain⟨i,o,q⟩:=zN.1 DI;obtain⟨j,p⟩:=Option.isSome_iff_exists.1 DH;have z:=@run_callFunc_extern π 375 _ D7 func375 (by kernel_rfl) (by kernel_rfl) (by kernel_rfl) (by kernel_rfl);have y:=@run_callFunc_extern π 113 _ Extern.ReflectliteType.typeOf func113 (by kernel_rfl) (by kernel_rfl) (by kernel_rfl) (by kernel_rfl);have x:=Dj;have A:=B6;have s:=Bn;have u:=BD;have C:=DT;have r:=DA;have t:=run_eql_iface_types (P:=π) 229 522 (γ #[V I m]) (Z (W a)) underlying41 (by decide);have v:=λf=>run_eql_iface_ptr_same (P:=π) f a underlying41 underlying522 o q p;have c:=CM m _ w b k;have g:=zD c;clear c b
 go_enter func112,ntmps112
 go_wp2_with fail
 have l:Calls π 160 #[.iface 229 (γ #[V I m]),.iface 522 (Z (W a)),β true] w λe w'=>e=ρ (β true)/\w'=w.alloc (J #[V I m] 229):=by
  go_enter func160,ntmps160
  go_wp2_with fail
  refine wp_loop_rounds 2 ?_;rw[rounds_succ]
  go_wp2_with fail
  refine g.out.mono ?_;rintro e d ⟨rfl,rfl⟩;generalize hW1:w.alloc (J #[V I m] 229)=W1;have n:=zD hW1;clear hW1
  go_wp2_with fail
  rw[rounds_succ]
  go_wp2_with fail
  go_ret
  exact⟨rfl,n.out.symm⟩
 refine l.mono ?_;rintro e d ⟨rfl,rfl⟩
 go_wp2_with fail
 go_ret
 exact⟨rfl,rfl⟩
theorem Cv(m:Int)(w:World)(z:DZ w):Calls π 77 #[.iface 229 (γ #[V I m])] w λe w'=>e=ρ (V I m)/\Below w.heap.size w w':=by
 obtain⟨x,⟨a,t⟩,j⟩:=z;obtain⟨f,g⟩:∃f,w.heap.size=f:=⟨_,rfl⟩;have b:Far xO w (w.alloc (J #[V I 0] 229)):=(ξ _ w).alloc _;have p:(w.alloc (J #[V I 0] 229)).heap[f]? =W (J #[V I 0] 229 (0,0)):=by rw[<-g];exact af w _
 have c3:=b.at t id;have r:=b.at j id;have E:10<=(w.alloc (J #[V I 0] 229)).heap.size:=Nat.le_trans x b.size;have u:=DG m a (w.alloc (J #[V I 0] 229)) c3 (by omega);obtain⟨o,n,y⟩:=zx3 u b g;clear u b j t
 go_enter func77,ntmps77
 go_upto_region 2 with (fail)
 generalize (w.alloc (J #[V I 0] 229))=c at *;clear g
 go_wp2_with fail
 refine o.out.mono ?_;rintro e H ⟨rfl,rfl⟩;have d:Far xO c (c.alloc (J #[V I m] 229)):=(ξ _ c).alloc _;have i:=DC m f (c.alloc (J #[V I m] 229)) (d.at r id) (by have:=d.size;omega) (d.heap p id);have q:=zD i;have s:=zD (n.out.trans d);clear i d r c3 p o;generalize (c.alloc (J #[V I m] 229))=F at *
 go_wp2_with fail
 refine q.out.mono ?_;rintro e C ⟨rfl,l,v⟩;have G:=zF v 0 rfl;have A:=zD ((s.out.step l (λk D e=>by have:=y.out;omega)).to_below (B:=w.heap.size) (η _) (λ_ _ e=>e));clear l v q s n
 go_wp2_with fail
 go_ret
 exact⟨rfl,A.out⟩
theorem Cw(n m:Int)(w:World)(t:DZ w):Calls π 36 #[.iface 109 (γ #[V I n,V I m])] w λe w'=>e=ρ (.tuple #[V I n,V I m])/\Below w.heap.size w w':=by
 obtain⟨r,_,g⟩:=t;obtain⟨b,c⟩:∃b,w.heap.size=b:=⟨_,rfl⟩;have a:Far xO w (w.alloc (J #[V I 0,V I 0] 109)):=(ξ _ w).alloc _;have o:(w.alloc (J #[V I 0,V I 0] 109)).heap[b]? =W (J #[V I 0,V I 0] 109 (0,0)):=by rw[<-c];exact af w _
 have z:10<=(w.alloc (J #[V I 0,V I 0] 109)).heap.size:=Nat.le_trans r a.size;have f:=DB n m b (w.alloc (J #[V I 0,V I 0] 109)) (a.at g id) (by omega) o;obtain⟨p,l,s⟩:=zx3 f a c;clear f a g o
 go_enter func36,ntmps36
 go_upto_region 2 with (fail)
 generalize (w.alloc (J #[V I 0,V I 0] 109))=y at *;clear c
 go_wp2_with fail
 refine p.out.mono ?_;rintro e i ⟨rfl,j,d⟩;have A:=zF d 0 rfl;have x:=zF d 1 rfl;have q:=zD ((l.out.step j (λk v e=>by have:=s.out;omega)).to_below (B:=w.heap.size) (η _) (λ_ _ e=>e));clear j d p l
 go_upto_region 3 with (fail)
 go_quiet (fail)
 have u:Below w.heap.size w (i.drewN nq):=q.out.trans (((ξ xO i).drewN nq).to_below (B:=w.heap.size) q.out.size (λ_ _ e=>e.elim))
 go_wp2_with fail
 go_ret2
 exact⟨rfl,u⟩
theorem Cu(a e:Int)(b:e≠0)(w:World):Calls π 53 #[V I a,V I e] w λx w'=>x=ρ (.iface 109 (γ #[V I a,V I e]))/\w'=w:=by
 go_enter func53,ntmps53
 go_wp2
 go_ret
 exact⟨rfl,rfl⟩
end
section
attribute [local go_sem] ak
theorem BE(bn bq ab:Nat)(k:Int)(f:Tp.B)(x:Tp.Sc)(b:List Tp.Sc)(c:List Tp.Tree)(kv bk:Value)(v b3:NS)(l:List Tp.Nd)(N:List (Tp.B × Nat))(w:World)(b9:yL w bq ab b3 l N)(E:Row w v b.length kv (xV b))(ca:∃a b2,bk=Y a c.length b2)(a4:Glob w)(a2:∀k,v k->k < w.heap.size)(a5:x8 x=true/\x.s.length<=1000)(C:∀d∈b,x8 d=true/\d.s.length<=1000)(a1:f.length<=1000)
(bx:Tp.shaped ⟨k,f,x,b,c⟩=true)(a3:Tp.twice b=true)(cv:bn<=24):
 Calls π 109 #[.pointer (some ⟨bq,0,O⟩),γ #[.int I k,xR f,.int I x.k,.int I x.n,xR x.s,kv,bk],.int I (bn:Int)] w λe w'=>e=ρ (.iface 229 (γ #[.int I 101]))/\Below w.heap.size w w':=by
 obtain⟨cm,cS,cT,ch,ct,q⟩:=b9;obtain rfl:=q.sn;obtain⟨co,ck,a6,an⟩:=kA N f a1 ab q.nd;obtain⟨j,p,rfl,_⟩:=E.form;obtain⟨o,g,rfl⟩:=ca;have ac:=λW (i:Far xO w W)=>kG k f x b c (Y j b.length p) (Y o c.length g) v W (E.far i (λ_ _ _ e=>e)) ⟨_,_,rfl⟩ (a4.far i (λ_ _ e=>e)) a5 C a1 bx;have ao:=λW (i:Far xO w W)=>jI b _ v W (λd ba=>qT d (C d ba).1 (C d ba).2) (E.far i (λ_ _ _ e=>e)) (λk b4=>zK (a2 k b4) i.size);rw[a3]at ao;obtain⟨G,P⟩:∃T,xR f=.string T:=⟨_,rfl⟩;obtain⟨A,bw⟩:∃T,xR x.s=.string T:=⟨_,rfl⟩;rw[P,bw]at ac;rw[P]at an;rw[P,bw];have H:Far xO w (w.alloc (J #[.int I k,.string G,.int I x.k,.int I x.n,.string A,Y j b.length p,Y o c.length g] 161)):=(ξ _ w).alloc _;have cf:=af w (J #[.int I k,.string G,.int I x.k,.int I x.n,.string A,Y j b.length p,Y o c.length g] 161);have M:=q.far H (λ_ _ e=>e);obtain⟨cl,b5⟩:∃n,l.length=n:=⟨_,rfl⟩;have ad:=M.hd;have b1:=λn=>(an _ (show xW π 9 ((w.alloc (J #[.int I k,.string G,.int I x.k,.int I x.n,.string A,Y j b.length p,Y o c.length g] 161)).drewN n) ab (yO N)from M.map)).1;rw[b5]at ad;obtain⟨bm,a9,av,L,R,b6⟩:=zx6 ac ao H ad cf a6;clear ac ao H ad q M E a4 a2 a5 C a1 bx a3 an a6
 go_enter func109,ntmps109
 go_upto_region 1 with (fail)
 generalize (w.alloc (J #[.int I k,.string G,.int I x.k,.int I x.n,.string A,Y j b.length p,Y o c.length g] 161))=m at *;obtain⟨X,al,S,_⟩:=bv L.out;obtain⟨s,z,D,y,r,u,F,_⟩:=bd R.out
 go_quiet (fail)
 go_wp2_with fail
 have a0:Far xO m (m.drewN nq):=(ξ _ m).drewN nq;have b8:=zD a0;refine(bm.out _ (av.out.trans a0)).mono ?_;rintro e cc ⟨rfl,bR⟩;have bD:Far xO m cc:=b8.out.below bR;have t:=zD bD;clear bR bD a0 X al S s z D y r u F b1;obtain⟨X,al,S,_⟩:=bv (t.out.heap L.out id);obtain⟨s,z,D,y,r,u,F,_⟩:=bd (t.out.heap R.out id)
 go_wp2_with fail
 refine(a9.out _ (av.out.trans t.out)).mono ?_;rintro e b0 ⟨rfl,bb⟩;have be:Far xO m b0:=t.out.below bb;have bs:=zD be;clear bb be X al S s z D y r u F;obtain⟨s,z,D,y,r,u,F,_⟩:=bd (bs.out.heap R.out id);have cb:Below w.heap.size w b0:=(av.out.trans bs.out).to_below (η _) (λ_ _ e=>e);clear bm a9 L b6
 go_wp2_with fail
 go_ret
 exact⟨rfl,cb⟩
theorem Cg(b an:Nat)(y:Tp.B)(x:Tp.Sc)(k:Int)(s:List Tp.Sc)(u:List Tp.Tree)(L:List Value)(C T:NS)(l:List Tp.Nd)(G:List (Tp.B × Nat))(w:World)(D:xS w C ⟨k,y,x,s,u⟩ L)(ab:zb ⟨k,y,x,s,u⟩)(ao:yL w b an T l G)(R:Glob w)(E:∀k,C k->k < w.heap.size)(a9:Tp.shaped ⟨k,y,x,s,u⟩=true)(H:Tp.twice s=true):
 Calls π 76 #[Z (some ⟨b,0,O⟩),γ L.toArray,V I 1] w λe w'=>e=ρ (.tuple #[V I 0,.iface 229 (γ #[V I 101])])/\Below w.heap.size w w':=by
 have ba:=D.form;unfold xS at D;unfold zb at ab;obtain⟨S,a5,P,bb,bx,bm⟩:=ab;obtain⟨kv,bq,b4,F,ad,bw,a0⟩:=D;have A:=λW (v:Far xO w W)=>BE 1 b an k y x s u kv bq C T l G W (ao.far v (λ_ _ e=>e)) (ad.far v (λ_ _ _ e=>e)) (by obtain⟨a,be,h,_⟩:=a0.form;exact⟨a,be,h⟩) (R.far v (λ_ _ e=>e)) (λk bk=>zK (E k bk) v.size) S a5 P a9 H (by omega);obtain⟨j,g,p,q,o,n,f,m,d,i,c,rfl⟩:=ba;simp only[List.cons.injEq,and_true]at F;obtain⟨a4,a2,N,a6,av,ac,X⟩:=F;rw[<-a4,<-a2,<-N,<-a6,<-av,<-ac,<-X]at A;obtain⟨r,t⟩:∃r,w.heap.size=r:=⟨_,rfl⟩;have z:Far xO w (((w.alloc (J #[Z (some ⟨b,0,O⟩)] 155)).alloc (J #[V I j,U g,V I p,V I q,U o,Y n f m,Y d i c] 161)).alloc (J #[V I 1] 3)):=(((ξ _ w).alloc _).alloc _).alloc _;have b5:(((w.alloc (J #[Z (some ⟨b,0,O⟩)] 155)).alloc (J #[V I j,U g,V I p,V I q,U o,Y n f m,Y d i c] 161)).alloc (J #[V I 1] 3)).cell? ⟨r,0,O⟩=some (Z (some ⟨b,0,O⟩)):=ae (show (((w.alloc (J #[Z (some ⟨b,0,O⟩)] 155)).alloc (J #[V I j,U g,V I p,V I q,U o,Y n f m,Y d i c] 161)).alloc (J #[V I 1] 3)).heap[r]? =some (J #[Z (some ⟨b,0,O⟩)] 155 (0,0))by rw[<-t];exact aa _ (aa _ (af w _))) 0;obtain⟨b0,b3,b6,b2,bD,b1,ca,_⟩:=bd (show (((w.alloc (J #[Z (some ⟨b,0,O⟩)] 155)).alloc (J #[V I j,U g,V I p,V I q,U o,Y n f m,Y d i c] 161)).alloc (J #[V I 1] 3)).heap[r+1]? =some (J #[V I j,U g,V I p,V I q,U o,Y n f m,Y d i c] 161 (0,0))from aa _ (ah _ _ _ (by simp[t])));have bR:(((w.alloc (J #[Z (some ⟨b,0,O⟩)] 155)).alloc (J #[V I j,U g,V I p,V I q,U o,Y n f m,Y d i c] 161)).alloc (J #[V I 1] 3)).cell? ⟨r+1+1,0,O⟩=some (V I 1):=ae (show (((w.alloc (J #[Z (some ⟨b,0,O⟩)] 155)).alloc (J #[V I j,U g,V I p,V I q,U o,Y n f m,Y d i c] 161)).alloc (J #[V I 1] 3)).heap[r+1+1]? =some (J #[V I 1] 3 (0,0))from ah _ _ _ (by simp[t])) 0;have M:=zD (A _ z);obtain⟨a3,b8⟩:=zx2 z t;clear A z ad bw a0 ao R E a9 H S a5 P bb bx bm a4 a2 N a6 av ac X
 go_enter func76,ntmps76
 go_upto_region 1 with (fail)
 clear t;generalize (((w.alloc (J #[Z (some ⟨b,0,O⟩)] 155)).alloc (J #[V I j,U g,V I p,V I q,U o,Y n f m,Y d i c] 161)).alloc (J #[V I 1] 3))=b9 at *
 go_wp2_with fail
 refine M.out.mono ?_;rintro e cb ⟨rfl,al⟩;have a1:=(a3.out.below al).to_below (B:=w.heap.size) (η _) (λ_ _ e=>e);have bs:=zD a1;clear a1 al M a3
 go_wp2_with fail
 go_ret2
 exact⟨rfl,bs.out⟩
theorem Co(k:Int)(D:Tp.B)(x:Tp.Sc)(y:List Tp.Sc)(A:List Tp.Tree)(T:List Value)(G:NS)(w:World)(H:xS w G ⟨k,D,x,y,A⟩ T)(av:zb ⟨k,D,x,y,A⟩)(F:Glob w)(a1:DZ w)(M:∀k,G k->k < w.heap.size)(be:Tp.shaped ⟨k,D,x,y,A⟩=true)(S:Tp.twice y=true):
 Calls π 55 #[γ T.toArray] w λe w'=>e=ρ (.tuple #[γ #[.int I 0,Y O 0 0],.int I 101])/\Below w.heap.size w w':=by
 obtain⟨a,u⟩:∃a,w.heap.size=a:=⟨_,rfl⟩;obtain⟨m,g,s,t,r,o,f,n,d,l,c,rfl⟩:=H.form;have v:Far xO w ((((w.alloc (J #[.int I m,.string g,.int I s,.int I t,.string r,Y o f n,Y d l c] 78)).alloc (J #[.int I 0,Y O 0 0] 54)).alloc (.map #[] 0)).alloc (J #[.int I 0,Y O 0 0,.map (W (a+1+1))] 158)):=((((ξ _ w).alloc _).alloc _).alloc _).alloc _;have N:((((w.alloc (J #[.int I m,.string g,.int I s,.int I t,.string r,Y o f n,Y d l c] 78)).alloc (J #[.int I 0,Y O 0 0] 54)).alloc (.map #[] 0)).alloc (J #[.int I 0,Y O 0 0,.map (W (a+1+1))] 158)).heap[a]? =W (J #[.int I m,.string g,.int I s,.int I t,.string r,Y o f n,Y d l c] 78 (0,0)):=by rw[<-u];exact aa _ (aa _ (aa _ (af w _)))
 have ab:((((w.alloc (J #[.int I m,.string g,.int I s,.int I t,.string r,Y o f n,Y d l c] 78)).alloc (J #[.int I 0,Y O 0 0] 54)).alloc (.map #[] 0)).alloc (J #[.int I 0,Y O 0 0,.map (W (a+1+1))] 158)).heap[a+1]? =W (J #[.int I 0,Y O 0 0] 54 (0,0)):=aa _ (aa _ (ah _ _ _ (by simp[u])));have bk:((((w.alloc (J #[.int I m,.string g,.int I s,.int I t,.string r,Y o f n,Y d l c] 78)).alloc (J #[.int I 0,Y O 0 0] 54)).alloc (.map #[] 0)).alloc (J #[.int I 0,Y O 0 0,.map (W (a+1+1))] 158)).heap[a+1+1+1]? =W (J #[.int I 0,Y O 0 0,.map (W (a+1+1))] 158 (0,0)):=ah _ _ _ (by simp[u]);have a0:xW π 9 ((((w.alloc (J #[.int I m,.string g,.int I s,.int I t,.string r,Y o f n,Y d l c] 78)).alloc (J #[.int I 0,Y O 0 0] 54)).alloc (.map #[] 0)).alloc (J #[.int I 0,Y O 0 0,.map (W (a+1+1))] 158)) (a+1+1) []:=by
  have b:=aL (P:=π) (K:=9) ((w.alloc (J #[.int I m,.string g,.int I s,.int I t,.string r,Y o f n,Y d l c] 78)).alloc (J #[.int I 0,Y O 0 0] 54));rw[show ((w.alloc (J #[.int I m,.string g,.int I s,.int I t,.string r,Y o f n,Y d l c] 78)).alloc (J #[.int I 0,Y O 0 0] 54)).heap.size=a+1+1 by simp[u]]at b;exact b.far ((ξ xO _).alloc _) id
 have E:((((w.alloc (J #[.int I m,.string g,.int I s,.int I t,.string r,Y o f n,Y d l c] 78)).alloc (J #[.int I 0,Y O 0 0] 54)).alloc (.map #[] 0)).alloc (J #[.int I 0,Y O 0 0,.map (W (a+1+1))] 158)).heap.size=a+4:=by simp[u]
 have ac:yL ((((w.alloc (J #[.int I m,.string g,.int I s,.int I t,.string r,Y o f n,Y d l c] 78)).alloc (J #[.int I 0,Y O 0 0] 54)).alloc (.map #[] 0)).alloc (J #[.int I 0,Y O 0 0,.map (W (a+1+1))] 158)) (a+1+1+1) (a+1+1) (λk=>k=a+1+1+1\/k=a+1+1) [] []:=⟨O,0,0,[],λ_=>False,bk,World.ownsRow_nil _ _ _ _,rfl,λi x p b=>by simp at b,λk b=>by simp[Value.ownBlock]at b,λi p k b=>by simp at b,λi j p q k _ b=>by simp at b,λk b=>b.elim,a0,by simp,λk b=>by rw[E];omega,.inl rfl,.inr rfl,by omega⟩;have bD:=F.1;have ad:=Cg (a+1+1+1) (a+1+1) D x k y A _ G _ [] [] _ (xS.far v (λ_ _ _ e=>e) _ _ H) av ac (F.far v (λ_ _ e=>e)) (λk ao=>zK (M k ao) v.size) be S;have an:=a1.far v (λ_ _ e=>e);obtain⟨a3,ba,a6,a2,b1,b5⟩:=zx6 an ad v ab u E;obtain⟨bn,bx,b0,bs,bm,bq,b2,_⟩:=bd N;have ca:=@run_makeMap π;clear E ad v N ab bk a0 ac H av F M be S bD a1 an
 go_enter func55,ntmps55
 go_upto_region 2 with (fail)
 clear u;generalize ((((w.alloc (J #[.int I m,.string g,.int I s,.int I t,.string r,Y o f n,Y d l c] 78)).alloc (J #[.int I 0,Y O 0 0] 54)).alloc (.map #[] 0)).alloc (J #[.int I 0,Y O 0 0,.map (W (a+1+1))] 158))=b8 at *
 go_wp2_with fail
 refine ba.out.mono ?_;rintro e bR ⟨rfl,z⟩;have cb:=z.size;have a9:=(Far.of_below z xO).heap a2.out id;have a5:=zD (Cv 101 bR (a3.out.below z));have a4:=zD (a6.out.below z);have X:=zD a9;clear z a9 ba a2 a3 bn bx b0 bs bm bq b2
 go_wp2_with fail
 refine a5.out.mono ?_;rintro e b4 ⟨rfl,C⟩;have L:=(Far.of_below C xO).heap X.out id;obtain⟨b9,b6,u0,u1⟩:=bO L;obtain⟨bb,R⟩:=wZ L (.int I 0) (Y O 0 0);have al:Below w.heap.size w ((b4.setCell ⟨a+1,0,O⟩ (.int I 0)).setCell ⟨a+1,1,O⟩ (Y O 0 0)):=((a4.out.below C).to_below (η _) (λ_ _ e=>e)).trans (R.to_below (by have:=a6.out.size;have:=C.size;omega) (λk ao e=>by have:=b1.out;omega));obtain⟨bw,b3⟩:=zx2 al bb;clear al bb R L C a4 X a5
 go_wp2_with fail
 exact bodyPost_ret (fA results55 _ (a+1) _ _ _ b3.out rfl) rfl ⟨rfl,bw.out⟩
end
section
attribute [local go_sem] ak
def erV(a:Value)(t:Nat):Value:=if t=2 then .iface 109 a else .nilIface
theorem Eh(a:Value)(t:Nat)(b:t < 2):erV a t=.nilIface:=if_neg (by omega)
theorem BR(r m:Value)(k:Int)(g:Tp.B)(x:Tp.Sc)(c:List Tp.Sc)(j:List Tp.Tree)(f:List Value)(l:NS)(w:World)(u:xS w l ⟨k,g,x,c,j⟩ f)(v:zb ⟨k,g,x,c,j⟩)(G:Glob w)(D:DZ w)(q:∀k,l k->k < w.heap.size)(H:Tp.shaped ⟨k,g,x,c,j⟩=true)(s:Tp.twice c=true):
 Calls π 35 #[γ #[r],.iface 78 (γ f.toArray)] w λe w'=>e=ρ (.tuple #[.iface 54 (γ #[V I 0,Y O 0 0]),.iface 109 (γ #[V I 0,V I 101])])/\Below w.heap.size w w':=by
 have b:Below w.heap.size w (w.alloc (J #[r] 73)):=(ζ _ w).alloc (η _) _;have L:=Co k g x c j f l _ (xS.far (Far.of_below b xO) (λ_ _ _ e=>e) _ _ u) v (G.step b) (D.below b) (λk M=>zK (q k M) b.size) H s;have P:=xJ (γ f.toArray);obtain⟨C,n⟩:=zx2 L b;clear L b G u v q H s D;generalize Value.agg f.toArray=R at *
 go_enter func35,ntmps35
 go_wp2_with fail
 refine C.out.mono ?_;rintro e a ⟨rfl,F⟩;have p:=n.out.trans (F.mono n.out.size);have t:Far xO a ((a.alloc (J #[V I 0,Y O 0 0] 54)).drew):=((ξ _ a).alloc _).drew;obtain⟨z,E,_⟩:=bO (cq (af a (J #[V I 0,Y O 0 0] 54)));have i:(λd=>d.cell? ⟨a.heap.size,0,O⟩=W (V I 0)/\d.cell? ⟨a.heap.size,1,O⟩=W (Y O 0 0)) ((a.alloc (J #[V I 0,Y O 0 0] 54)).drew):=⟨z,E⟩;clear z E;have N:=zD (p.trans (t.to_below (B:=w.heap.size) (by exact p.size) (λ_ _ e=>e.elim)));clear F p t C n P
 go_upto_region 2 with (fail)
 refine wp_region_noPanic ?_;refine ar (λd=>d.cell? ⟨a.heap.size,0,O⟩=W (V I 0)/\d.cell? ⟨a.heap.size,1,O⟩=W (Y O 0 0)) [] (by kernel_rfl) ?_;refine aJ (by kernel_rfl) (λ_ _ _ _ o=>o) i 3 [0,1,2] _ _ (by kernel_rfl) ?_;iterate 3 (refine Ei ?_;(try go_frame))
 refine xT.done ?_;try dsimp only
 refine aq [3] ?_;refine aj rfl (λK y=>?_) xQ.nil
 go_simp
 refine(Cu 0 101 (by decide) _).mono ?_;rintro e w5 ⟨rfl,A⟩;obtain rfl:=A.symm;refine y.out _ _ (λ_=>i) ?_;clear y K A
 (try go_frame)
 refine aJ (by kernel_rfl) (λ_ _ _ _ o=>o) i 0 [4,5] _ _ (by kernel_rfl) ?_;iterate 2 (refine Ei ?_;(try go_frame))
 refine xT.done ?_;try dsimp only
 refine aP (by kernel_rfl) (NoPanic.normal ?_) _;clear i
 go_wp2_with fail
 go_ret2
 exact⟨rfl,N.out⟩
end
end Go.Proofs.YtbikgdhbiebhcaaGreatDoor
