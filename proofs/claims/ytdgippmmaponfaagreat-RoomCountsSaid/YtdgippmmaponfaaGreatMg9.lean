/- Contracts of the functions that the law reaches, and plain laws; no conditions but those written at each. -/
import Derived.Test.YtdgippmmaponfaaGreatMg8
namespace Go.Proofs.YtdgippmmaponfaaGreat
open Go.Value renaming bool->μ,slice->δ,pointer->π,agg->θ
open Go.IntKind renaming i64->ι,u8->υ,u16->φ,u32->ω,i32->χ,u64->ψ
open _root_.Go.Proofs.Tryz
set_option linter.unusedSimpArgs false
set_option maxHeartbeats 8000000
set_option linter.unusedVariables false
open Go.RowKit
set_option maxRecDepth 100000
def xS (sub:Int) (l:Bk):List Int:=l.filterMap λp=>if p.1.1=sub/\p.2=0 then some p.1.2 else none
def jz (m:Bk) (sub:Int):List Int:=srt (xS sub m)
theorem kN (sub:Int) (l:Bk):(xS sub l).length<=l.length:=List.length_filterMap_le _ _
theorem Xe {K V:Type} (L:List (K×V)) (is:List Nat):(zj L is).length<=is.length:=List.length_filterMap_le _ _
theorem Ki (sub:Int) (l:Bk) (p:(Int×Int)×Int):xS sub (l++[p])=xS sub l++(if p.1.1=sub/\p.2=0 then [p.1.2] else []):=by
 unfold xS;rw[List.filterMap_append];by_cases h:p.1.1=sub/\p.2=0<;>simp[h]
theorem Yc {w:World} {B b:Nat} {m:Bk} (h:jy w B b m) (sub:Int) (ay:m.length<=1000000):
  Calls prog 70 #[γ B,ι sub] w λe w'=>(∃v,e= .returned v/\SlI .i64 w' v (jz m sub)/\ ∀q,v.ownBlock=some q->w.heap.size<=q)/\qa w w':=by
 obtain⟨aT,hi,aQ,aI,aE⟩:=info_parts (P:=prog) (e:=3) (z:= ι 0) (size:=1) (bytes:=8) ξ;have bf:=β0 h.blk;have ba:=κ h;have am:=κ ay;obtain⟨w1,bd,aw,aB,aL⟩:=h.map.range (P:=prog) underlying195;have aZ:=h.map.lt;have aU:=κ aw;have aC:=κ aB;clear h ay aw aB aL
 go_enter func70,ntmps70
 go_wp2
 go_loopw [5] (λv5 wr=> ∃is:List Nat,jW wr w.heap.size b ke2 (Value.int .i64) m is/\wr.ownsRow (w.heap.size+1) 3 1 v5 (xS sub (zj m is)).length ((xS sub (zj m is)).map (Value.int .i64))/\qa w wr) (λ_ wr=>uO wr b w.heap.size)
 case atStart=>exact⟨[],aU.o,World.ownsRow_nil _ _ _ _,aC.o⟩
 case round=>
  obtain⟨is,U,af,ag⟩:=hrel;have an:=κ U;have ab:=κ af;have ak:=κ ag;have aj:=κ U.left;rcases U.next (P:=prog) with ⟨ao,ai⟩ | ⟨i,aP,w2,bh,aV,ai,aq,ad,aG,ap⟩
  ·clear U af ag;have ax:=κ ao;clear ao;have aM:(xS sub (zj m is)).length<4611686018427387904:=by
    have H:=kN sub (zj m is);have J:=Xe m is;have be:=ax.o;have aF:=am.o;omega
   go_wp2_with (go_at_call 107;(go_call DQ ab.o aM as e bg ⟨rfl,O,au⟩;have aO:=κ O;have aR:=κ au;clear O au))
   go_ret;have aN:=an.o.perm ax.o;have aH:srt (xS sub (zj m is))=jz m sub:=gL (aN.filterMap _);have O:=aO.o;rw[aH] at O;refine⟨⟨_,rfl,SlI.of_owns O ?_,λq N=>by have:=jS ab.o N;omega⟩,ak.o.grown aR.o ak.o.size ?_⟩
   ·have H:=kN sub m;have J:(jz m sub).length=(xS sub m).length:=vI _;have aF:=am.o;omega
   ·intro q N;have:=jS ab.o N;omega
  ·have aX:=kN sub (zj m is);have aY:=Xe m is;have az:=uW (L:=m) (is:=is) aP;have d:=Ki sub (zj m is) m[i];rw[<-az] at d;have bb:=am.o;have bc:is.length<1000000:=by omega
   clear U af ag az;generalize m[i]=p at *;obtain⟨⟨Y,ac⟩,f⟩:=p;unfold ke2 at ai ap;simp only at ai ap d;have G:=κ (Yx ab.o ad (λk ah=>by subst ah;exact Nat.lt_succ_self _));have I:=κ (aq.more (qa.alloc w2 (.cells #[ι Y,ι ac] 172)));have aA:qa w w2:=qg.to_more ak.o ad (λk ah=>by subst ah;exact Nat.le_refl _);have aa:=κ aA;have aW:w.heap.size+1<=w2.heap.size:=by have:=lt_of_block (an.o.rlt |> λh=>(Array.getElem?_eq_getElem h));omega
   clear aq ad aA aG;by_cases H:Y=sub
   ·by_cases J:f=0
    ·subst H J;rw[if_pos ⟨rfl,rfl⟩] at d;have M:=κ d;clear d
     go_wp2_with (at_builtin;refine qU _ rfl (.tmp 26) (.tmp 29) 75 rfl (w.heap.size+1) 3 aT (ι 0) 8 underlying75 hi aQ aI aE rfl _ .i64 (xS Y (zj m is)) rfl ((G.o.alloc _).alloc _) _ [ac] rfl (SlI.lit .i64 (w2.alloc (.cells #[ι Y,ι ac] 172)) [ac] 3 _ 1 _ η rfl η η) (by simp;omega) ζ (by simp;omega) ?_;intro v6 w6 av ae _;have aD:=κ av;have ar:=κ (qg.of_grown ae);have aS:=κ ae;clear av ae)
     go_roundw
     case rel=>
      refine⟨is++[i],(I.o.more (qa.alloc _ _)).away ar.o ?_ ?_, ?_, ?_⟩
      ·intro e;have:=jS G.o e;omega
      ·intro e;have:=jS G.o e;omega
      ·rw[M.o];exact aD.o
      ·exact(((aa.o.al _).al _).grown aS.o ((aa.o.al _).al _).size (λq N=>by have:=jS G.o N;omega))
     case measure=>
      have aK:=(I.o.more (qa.alloc _ _)).away ar.o (λe=>by have:=jS G.o e;omega) (λe=>by have:=jS G.o e;omega);rw[aj.o,aK.left];simp;omega
    ·have aJ:(f==0)=false:=by simpa using J
     rw[if_neg (λh=>J h.2),List.append_nil] at d;have M:=κ d;clear d J;subst H;go_wp2;go_roundw
     case rel=>exact⟨is++[i],I.o,by rw[M.o];exact G.o.alloc _,aa.o.al _⟩
     case measure=>
      rw[aj.o,I.o.left];simp;omega
   ·have aJ:(Y==sub)=false:=by simpa using H
    rw[if_neg (λh=>H h.1),List.append_nil] at d;have M:=κ d;clear d H;go_wp2;go_roundw
    case rel=>exact⟨is++[i],I.o,by rw[M.o];exact G.o.alloc _,aa.o.al _⟩
    case measure=>
     rw[aj.o,I.o.left];simp;omega
def zL (sub:Int) (f:Nat) (l:Bk):Int:=((l.countP λp=>decide (p.1.1=sub/\p.2=(f:Int)):Nat):Int)
def xH (sub:Int) (l:Bk):Array Value:= #[.int .i64 (zL sub 0 l),.int .i64 (zL sub 1 l),.int .i64 (zL sub 2 l),.int .i64 (zL sub 3 l),.int .i64 (zL sub 4 l),.int .i64 (zL sub 5 l),.int .i64 (zL sub 6 l),.int .i64 (zL sub 7 l),.int .i64 (zL sub 8 l)]
theorem WZ (sub:Int) (f:Nat) (l:Bk):0<=zL sub f l/\zL sub f l<=l.length:=by
 unfold zL;exact⟨τ,by have:=List.countP_le_length (l:=l) (p:=λp=>decide (p.1.1=sub/\p.2=(f:Int)));omega⟩
theorem Z2 (sub:Int) (f:Nat) (l:Bk) (p:(Int×Int)×Int):zL sub f (l++[p])=zL sub f l+if p.1.1=sub/\p.2=(f:Int) then 1 else 0:=by
 unfold zL;rw[List.countP_append];by_cases h:p.1.1=sub/\p.2=(f:Int)<;>simp[h]
theorem Db (sub:Int) (f:Nat) {a b:Bk} (h:a.Perm b):zL sub f a=zL sub f b:=by unfold zL;rw[h.countP_eq]
theorem Ks (sub:Int) {a b:Bk} (h:a.Perm b):xH sub a=xH sub b:=by unfold xH;simp only[Db sub _ h]
theorem Y2 (sub:Int) (l:Bk) (p:(Int×Int)×Int) (h:p.1.1≠sub):xH sub (l++[p])=xH sub l:=by
 unfold xH;simp only[Z2,h,false_and,if_false,Int.add_zero]
theorem Dc (sub:Int) (l:Bk) (n:Nat) (h:n<=8):(xH sub l)[n]? =some (ι (zL sub n l)):=by
 have:n=0∨n=1∨n=2∨n=3∨n=4∨n=5∨n=6∨n=7∨n=8:=by omega
 rcases this with rfl | rfl | rfl | rfl | rfl | rfl | rfl | rfl | rfl<;>rfl
theorem Kr (sub:Int) (l:Bk) (p2:Int) (n:Nat) (h:n<=8):(xH sub l).setIfInBounds n (ι (zL sub n l+1))=xH sub (l++[((sub,p2),(n:Int))]):=by
 unfold xH;simp only[Z2,true_and];have:n=0∨n=1∨n=2∨n=3∨n=4∨n=5∨n=6∨n=7∨n=8:=by omega
 rcases this with rfl | rfl | rfl | rfl | rfl | rfl | rfl | rfl | rfl<;>simp
theorem MG {K V:Type} {w:World} {r b:Nat} {ke:K->Value} {G:V->Value} {L:List (K×V)} {is:List Nat} (h:jW w r b ke G L is):r<w.heap.size:=by
 obtain⟨⟨M,N,J,I,H,d,_⟩,_⟩:=h;exact lt_of_block d
theorem F4 {w:World} {B b:Nat} {m:Bk} (h:jy w B b m) (sub:Int) (az:m.length<=1000000):
  Calls prog 71 #[γ B,ι sub] w λe w'=>e= .returned (θ (xH sub m))/\qa w w':=by
 have bf: ∃W0,W0=(w.alloc (.cells #[ι 0,ι 0,ι 0,ι 0,ι 0,ι 0,ι 0,ι 0,ι 0] 89)).alloc (.cells #[ι 0,ι 0,ι 0,ι 0,ι 0,ι 0,ι 0,ι 0,ι 0] 89):=⟨_,rfl⟩;obtain⟨W0,J⟩:=bf;have ag:qa w W0:=by rw[J];exact(qa.alloc _ _).al _
 have an:W0.heap[w.heap.size]? =some (.cells (xH sub []) 89 (0,0)):=by rw[J];exact qs (qj _ _) _
 have aj:W0.heap[w.heap.size+1]? =some (.cells (xH sub []) 89 (0,0)):=by rw[J];exact qC η
 have aw:W0.heap.size=w.heap.size+2:=by rw[J];simp
 have ah:=h.more ag;have bd:=β0 ah.blk;obtain⟨w1,ay,ac,O,ba⟩:=ah.map.range (P:=prog) underlying195;have aN:=κ az;have br:=h.map.lt;have aI:=κ (qc O an);have aO:=κ (qc O aj);rw[aw] at ac ay;have aV:=κ ac;have aX:=κ (ag.trans O);have aJ:=κ h.ok;rw[J] at bd ay;clear h az J ag an aj aw ah ac O ba
 go_enter func71,ntmps71
 go_wp2
 go_loopw [] (λwr=> ∃is:List Nat,jW wr (w.heap.size+2) b ke2 (Value.int .i64) m is/\wr.heap[w.heap.size]? =some (.cells (xH sub []) 89 (0,0))/\wr.heap[w.heap.size+1]? =some (.cells (xH sub (zj m is)) 89 (0,0))/\qa w wr) (λwr=>uO wr b (w.heap.size+2))
 case atStart=>exact⟨[],aV.o,aI.o,aO.o,aX.o⟩
 case round=>
  obtain⟨is,M,d,G,ae⟩:=hrel;have aE:=κ d;have aQ:=κ G;have ar:=κ ae;have ap:=κ M.left;rcases M.next (P:=prog) with ⟨ad,af⟩ | ⟨i,aq,w2,bn,bp,af,aa,U,aF,aA⟩
  ·have bs:=κ ad;rw[Ks sub (M.perm ad)] at G;have aM:=β0 G;have aL:=β1 G;have aR:=β2 G;have bb:=β3 G;have aY:=β4 G;have aU:=β5 G;have aK:=β6 G;have aH:=β7 G;have aP:=β8 G;have z0:=β0 d;have aT:=β1 d;have aS:=β2 d;have z3:=β3 d;have z4:=β4 d;have z5:=β5 d;have aZ:=β6 d;have bg:=β7 d;have aW:=β8 d;have bv:=qd d;clear M d G ae ad;go_wp2
   (refine bodyPost_ret (v:= θ (xH sub m)) ?rr1 rfl ?_;(case rr1=>(simp[results,results71,go_sem,aM,aL,aR,bb,aY,aU,aK,aH,aP,z0,aT,aS,z3,z4,z5,aZ,bg,aW,xH])))
   exact⟨rfl,((((((((ar.o.st (Nat.le_refl _) _).st (Nat.le_refl _) _).st (Nat.le_refl _) _).st (Nat.le_refl _) _).st (Nat.le_refl _) _).st (Nat.le_refl _) _).st (Nat.le_refl _) _).st (Nat.le_refl _) _).st (Nat.le_refl _) _⟩
  ·have aC:=uW (L:=m) (is:=is) aq;have bk:=aN.o;have bc:=aJ.o m[i] (List.getElem_mem aq);have bu:is.length<1000000:=by omega
   have bl:=Xe m is;clear M d G ae;have av:=κ aC;clear aC;have bi:=κ (rfl:m[i]=m[i]);generalize m[i]=p at *;obtain⟨⟨H,I⟩,f⟩:=p;unfold ke2 at af aA;simp only at af aA bc;obtain⟨n,rfl⟩: ∃n:Nat,f=n:=⟨f.toNat,τ⟩;have ao:n<=8:=by omega
   have bo: ¬(w.heap.size=w.heap.size+2):=by omega
   have aD:=aa.more (qa.alloc w2 (.cells #[ι H,ι I] 172));have ai:=qs (U.blk aE.o τ) (.cells #[ι H,ι I] 172);have N:=qs (U.blk aQ.o τ) (.cells #[ι H,ι I] 172);have au:qa w w2:=qg.to_more ar.o U (λk aG=>by subst aG;omega);have Y:=κ aD;have ax:=κ ai;have aB:=κ N;have am:=κ au;have q:=qb N n (Dc sub (zj m is) n ao);have bq:=qd N n;have bm:=(WZ sub n (zj m is)).1;have bh:=(WZ sub n (zj m is)).2;generalize ak:zL sub n (zj m is)=c at *;have be:=κ ak;have bt:w.heap.size+2<w2.heap.size:=by have:=MG aa;exact this
   clear aD ai N au aF aa U ak;by_cases h1:H=sub
   ·subst h1;go_wp2;go_roundw
    case rel=>
     have ab:=qg.set (qg.refl (λx=>x=w.heap.size+1) (w2.alloc (.cells #[ι H,ι I] 172))) (p:=⟨w.heap.size+1,n,none⟩) rfl (ι (c+1));refine⟨is++[i],Y.o.away ab τ τ,qo ax.o _ _ η, ?_,(am.o.al _).st η _⟩;rw[av.o,<-Kr H (zj m is) I n ao,be.o];exact qp aB.o n _
    case measure=>
     have ab:=qg.set (qg.refl (λx=>x=w.heap.size+1) (w2.alloc (.cells #[ι H,ι I] 172))) (p:=⟨w.heap.size+1,n,none⟩) rfl (ι (c+1));rw[ap.o,(Y.o.away ab τ τ).left];simp;omega
   ·have bj:(H==sub)=false:=by simpa using h1
    go_wp2;go_roundw
    case rel=>exact⟨is++[i],Y.o,ax.o,by rw[av.o,Y2 sub _ _ h1];exact aB.o,am.o.al _⟩
    case measure=>
     rw[ap.o,Y.o.left];simp;omega
def vM (m:Bk) (sub f:Int):Bk:=m.map λp=>if p.1.1=sub/\p.2=0 then (p.1,f) else p
def Gl (m:Bk) (sub f:Int):Bk×List Int:=if 1<=f/\f<=8 then (vM m sub f,jz m sub) else (m,[])
def Yi (m:Bk) (sub f:Int) (ps:List Int):Bk:=ps.foldl (λm p=>qx m (sub,p) f) m
theorem PO (m:Bk) (sub f:Int) (ps:List Int) (p:Int):Yi m sub f (ps++[p])=qx (Yi m sub f ps) (sub,p) f:=by simp[Yi,List.foldl_append]
theorem VF {k:Int×Int} {f:Int}: ∀{m:Bk},(m.map Prod.fst).Nodup->k∈m.map Prod.fst->qx m k f=m.map λp=>if p.1=k then (p.1,f) else p
 | [],_,h=>by simp at h
 | (a,b)::l,hn,h=>by
  simp only[List.map_cons,List.nodup_cons] at hn;unfold qx;by_cases e:k=a
  ·subst e;rw[if_pos rfl];simp only[List.map_cons,if_pos]
   congr 1
   symm;have: ∀p∈l,(if p.1=k then (p.1,f) else p)=p:=λp d=>by
    rw[if_neg];intro e;exact hn.1 (by rw[<-e];exact List.mem_map_of_mem d)
   calc l.map (λp=>if p.1=k then (p.1,f) else p)=l.map id:=List.map_congr_left this
    _=l:=by simp
  ·rw[if_neg e];simp only[List.map_cons];rw[if_neg (λh=>e h.symm)]
   congr 1
   exact VF hn.2 (by simp[e] at h;simpa using h)
theorem VT (sub f:Int): ∀(ps:List Int) (m:Bk),(m.map Prod.fst).Nodup->(∀p∈ps,(sub,p)∈m.map Prod.fst)->Yi m sub f ps=m.map λp=>if p.1.1=sub/\p.1.2∈ps then (p.1,f) else p
 | [],m,_,_=>by simp[Yi]
 | p::ps,m,hn,hk=>by
  have G:=VF (f:=f) hn (hk p List.mem_cons_self);have e:Yi m sub f (p::ps)=Yi (qx m (sub,p) f) sub f ps:=rfl;have d:(qx m (sub,p) f).map Prod.fst=m.map Prod.fst:=by
   rw[G,List.map_map];refine List.map_congr_left λq _=> ?_
   simp only[Function.comp];split<;>rfl
  rw[e,VT sub f ps _ (by rw[d];exact hn) (λq H=>by rw[d];exact hk q (List.mem_cons_of_mem _ H)),G,List.map_map];refine List.map_congr_left λq _=> ?_
  obtain⟨⟨a,c⟩,g⟩:=q;simp only[Function.comp];by_cases ea:a=sub
  ·subst ea;by_cases ec:c=p
   ·subst ec;simp
   ·simp[ec]
  ·simp[ea]
theorem pendB_mem {m:Bk} {sub x:Int}:x∈jz m sub↔((sub,x),0)∈m:=by
 unfold jz xS;rw[WG,List.mem_filterMap];constructor
 ·rintro⟨⟨⟨a,c⟩,g⟩,d,h⟩;by_cases e:a=sub/\g=0
  ·rw[if_pos e] at h;cases h;obtain⟨rfl,rfl⟩:=e;exact d
  ·rw[if_neg e] at h;cases h
 ·intro h;exact⟨_,h,η⟩
theorem Pm {m:Bk} (d:(m.map Prod.fst).Nodup) {k:Int×Int} {f g:Int} (G:(k,f)∈m) (H:(k,g)∈m):f=g:=by
 induction m with
 | nil=>cases G
 | cons p l ih=>
  simp only[List.map_cons,List.nodup_cons] at d;rcases List.mem_cons.1 G with e1 | h1'<;>rcases List.mem_cons.1 H with e2 | h2'
  ·rw[<-e1] at e2;cases e2;rfl
  ·exfalso;apply d.1;rw[<-e1];exact List.mem_map.2 ⟨_,h2',rfl⟩
  ·exfalso;apply d.1;rw[<-e2];exact List.mem_map.2 ⟨_,h1',rfl⟩
  ·exact ih d.2 h1' h2'
theorem PQ {m:Bk} (sub f:Int) (G:(m.map Prod.fst).Nodup):Yi m sub f (jz m sub)=vM m sub f:=by
 rw[VT sub f _ m G (λp H=>List.mem_map_of_mem (f:=Prod.fst) (pendB_mem.1 H))];unfold vM;refine List.map_congr_left λq d=> ?_
 obtain⟨⟨a,c⟩,g⟩:=q;simp only;by_cases e:a=sub
 ·subst e;by_cases eg:g=0
  ·subst eg;rw[if_pos ⟨rfl,pendB_mem.2 d⟩,if_pos ⟨rfl,rfl⟩]
  ·rw[if_neg (λh=>eg (Pm G d (pendB_mem.1 h.2))),if_neg (λh=>eg h.2)]
 ·rw[if_neg (λh=>e h.1),if_neg (λh=>e h.1)]
theorem SlI.onmap {K V:Type} {k:IntKind} {w w':World} {b:Nat} {v:Value} {l:List Int} {ke:K->Value} {U:V->Value} {L:List (K×V)} (h:SlI k w v l) (Y:jk w b ke U L) (a:qg (λx=>x=b) w w'):SlI k w' v l:=by
 obtain⟨N,cap,ab,aa,M,J⟩:=h;refine⟨N,cap,ab,aa,λi hi=> ?_,J⟩;obtain⟨c,d,e,H,G⟩:=M i hi;have I: ¬c=b:=by
  rintro rfl;obtain⟨ac,ad,O,_⟩:=Y.ex;simp[World.cell?,O] at G
 exact⟨c,d,e,Nat.lt_of_lt_of_le H a.size,by rw[a.cells c (d+i) H I];exact G⟩
theorem BO {m:Bk} (k:Int×Int) (f:Int):(qx m k f).length<=m.length+1:=by
 induction m with
 | nil=>simp[qx]
 | cons p l ih=>
  unfold qx;split<;>simp<;>omega
theorem MN {w:World} {B b:Nat} {m:Bk} (h:jy w B b m) (sub f:Int) (av:m.length<=1000000):
  Calls prog 93 #[γ B,ι sub,ι f] w λe w'=>(∃v,e= .returned v/\SlI .i64 w' v (Gl m sub f).2/\ ∀q,v.ownBlock=some q->w.heap.size<=q)/\jy w' B b (Gl m sub f).1/\qg (λx=>x=b) w w':=by
 by_cases hf:1<=f/\f<=8
 ·have H:=κ hf;have J:=κ h;have G:Gl m sub f=(vM m sub f,jz m sub):=by unfold Gl;rw[if_pos hf]
  have O:=κ G;have aC:(jz m sub).length<=1000000:=by
   have aE:=kN sub m;have aH:(jz m sub).length=(xS sub m).length:=vI _;omega
  clear h G hf
  go_enter func93,ntmps93
  go_wp2_with first | (go_at_call 145;(go_call yP f _ H.o as e w2 ⟨rfl,rfl⟩)) | (go_at_call 70;(go_call Yc J.o sub av as e aG ⟨⟨v3,rfl,aj,ag⟩,ah⟩;have ao:=κ aj;have ab:=κ ah;obtain⟨am,ap,rfl,_⟩:=aj;have au:=κ ag;clear ah ag))
  go_loopw [18] (λi wr=> ∃j:Nat,j<=(jz m sub).length/\i= ι j/\jy wr B b (Yi m sub f ((jz m sub).take j))/\SlI .i64 wr (δ am (jz m sub).length ap) (jz m sub)/\qg (λx=>x=b) w wr) (λi _=>(jz m sub).length-(intOf i).toNat)
  case atStart=>exact⟨0,τ,rfl,J.o.more ab.o,ao.o,qg.of_more ab.o⟩
  case round=>
   obtain⟨j,aD,rfl,d,M,I⟩:=hrel;have U:=κ d;have ae:=κ M;have af:=κ I;have aF:=β0 d.blk;by_cases hlt:j<(jz m sub).length
   ·obtain⟨aB,cap,ar,_,ai,_⟩:=M;cases ar;obtain⟨ax,ay,rfl,az,aw⟩:=ai j hlt;have aA:(j:Int)<((jz m sub).length:Int):=by omega
    have Y:(jz m sub).getD j 0=(jz m sub)[j]:=by simp[hlt]
    rw[Y] at aw;have ad:(jz m sub).take (j+1)=(jz m sub).take j++[(jz m sub)[j]]:=List.take_succ_eq_append_getElem hlt;have al:=κ ad;clear ai Y ad;generalize (jz m sub)[j]=p at *;obtain⟨w4,ac,ak,aa,_⟩:=d.map.update Ys underlying195 (sub,p) f;unfold ke2 at ac;simp only at ac;have aq:=κ ak;have N:=κ aa;clear d I ak aa;go_wp2;go_roundw
    case rel=>
     refine⟨j+1,τ,by go_num, ?_,ae.o.onmap U.o.map N.o,af.o.trans N.o⟩;rw[al.o,PO];exact U.o.put N.o (by have:=H.o;omega) aq.o
    case measure=>simp[intOf];omega
   ·obtain rfl:j=(jz m sub).length:=by omega
    clear d M I;go_wp2;go_ret;rw[O.o];have d:=U.o;rw[List.take_length,PQ sub f J.o.map.keys] at d;exact⟨⟨_,rfl,ae.o,au.o⟩,d,af.o⟩
 ·have G:Gl m sub f=(m,[]):=by unfold Gl;rw[if_neg hf]
  have O:=κ G;have H:=κ hf;clear G hf
  go_enter func93,ntmps93
  go_wp2_with (go_at_call 145;(go_call Jh f _ H.o as e w2 ⟨rfl,rfl⟩))
  go_ret;rw[O.o];exact⟨⟨_,rfl,SlI.nil _ _,λq an=>by cases an⟩,h,qg.refl _ _⟩
abbrev Og:=Int×Int
abbrev Sb:=Int×Bool×Int
structure TS where
 o:List (Int×Og)
 s:List (Og×Int)
 u:List (Int×Sb)
def kO (k:Og):Value:= .agg #[.int .i64 k.1,.int .i64 k.2]
def vS (x:Sb):Value:= .agg #[.int .u32 x.1,.bool x.2.1,.int .i64 x.2.2]
theorem PK (a b:Og) (w:World):(Op.equal 50 (kO a) (kO b)).run prog w= .ok (decide (a=b)) w:=by
 have J:prog.stoodInHeld 50=false:=by kernel_rfl
 obtain⟨I,d⟩:=a;obtain⟨H,G⟩:=b;unfold Op.equal kO;rw[show Op.maxDepth=9999+1 from rfl,run_equalIn_agg w 9999 50 _ _ ξ J];simp[go_sem];by_cases e1:I=H<;>by_cases e2:d=G<;>simp[e1,e2]
theorem Ga {P:Program} {d:TypeId} {q:IntKind} (G:P.underlying d=some (.int q)) (n:Nat) (H:0<n) (b:Bool) (x:Int) (w:World):(Instr.checkKey b n d (.int q x)).run P w= .ok () w:=by
 obtain⟨m,rfl⟩: ∃m,n=m+1:=⟨n-1,τ⟩;unfold Instr.checkKey;rw[Sem.run_bind,run_underlying G];rfl
theorem Yr:yz prog 50 kO:=
 yz.of_ask underlying50 (λa b=>by simp[Instr.sameNow]) PK (λb k w=>by
  rw[show (10000:Nat)=9999+1 from rfl];unfold Instr.checkKey kO
  simp[run_underlying underlying50,go_sem,Ga underlying3 9999 ζ]) (λk=>by simp[Instr.sameBits,kO])
theorem Aa:yz prog 37 (Value.int .u32):=Ab underlying37
theorem kE:yz prog 3 (Value.int .i64):=Ab underlying3
structure jq (w:World) (T a b c:Nat) (t:TS):Prop where
 blk:w.heap[T]? =some (.cells #[.map (some a),.map (some b),.map (some c)] 202 (0,0))
 mo:jk w a (Value.int .u32) kO t.o
 ms:jk w b kO (Value.int .u32) t.s
 mu:jk w c (Value.int .i64) vS t.u
 ab:a≠b
 ac:a≠c
 bc:b≠c
theorem KU {K V:Type} {w:World} {B b:Nat} {cs:Array Value} {t:TypeId} {ke:K->Value} {G:V->Value} {L:List (K×V)} (h:w.heap[B]? =some (.cells cs t (0,0))) (H:jk w b ke G L):B≠b:=by
 intro e;obtain⟨I,J,d,_⟩:=H.ex;rw[e,d] at h;cases h
theorem jq.more {w w':World} {T a b c:Nat} {t:TS} (h:jq w T a b c t) (m:qa w w'):jq w' T a b c t:=⟨qc m h.blk,h.mo.more m,h.ms.more m,h.mu.more m,h.ab,h.ac,h.bc⟩
theorem jq.away {w w':World} {T a b c:Nat} {t:TS} {S:Nat->Prop} (h:jq w T a b c t) (m:qg S w w') (H: ¬S T) (d: ¬S a) (I: ¬S b) (G: ¬S c):jq w' T a b c t:=⟨m.blk h.blk H,h.mo.away m d,h.ms.away m I,h.mu.away m G,h.ab,h.ac,h.bc⟩
theorem jq.putO {w w':World} {T a b c:Nat} {t:TS} (h:jq w T a b c t) (m:qg (λz=>z=a) w w') {o:List (Int×Og)} (d:jk w' a (Value.int .u32) kO o):jq w' T a b c {t with o:=o}:=
 ⟨m.blk h.blk (KU h.blk h.mo),d,h.ms.away m (λe=>h.ab e.symm),h.mu.away m (λe=>h.ac e.symm),h.ab,h.ac,h.bc⟩
theorem jq.putS {w w':World} {T a b c:Nat} {t:TS} (h:jq w T a b c t) (m:qg (λz=>z=b) w w') {s:List (Og×Int)} (d:jk w' b kO (Value.int .u32) s):jq w' T a b c {t with s:=s}:=
 ⟨m.blk h.blk (KU h.blk h.ms),h.mo.away m h.ab,d,h.mu.away m (λe=>h.bc e.symm),h.ab,h.ac,h.bc⟩
theorem jq.putU {w w':World} {T a b c:Nat} {t:TS} (h:jq w T a b c t) (m:qg (λz=>z=c) w w') {u:List (Int×Sb)} (d:jk w' c (Value.int .i64) vS u):jq w' T a b c {t with u:=u}:=
 ⟨m.blk h.blk (KU h.blk h.mu),h.mo.away m h.ac,h.ms.away m h.bc,d,h.ab,h.ac,h.bc⟩
theorem Aq (w:World):(zeroValue 50).run prog w= .ok (θ #[ι 0,ι 0]) w:=by kernel_rfl
theorem Ap (w:World):(zeroValue 37).run prog w= .ok (ω 0) w:=by kernel_rfl
theorem Vi (w:World):(zeroValue 225).run prog w= .ok (θ #[ω 0,false,ι 0]) w:=by kernel_rfl
theorem jq.lookO {w:World} {T a b c:Nat} {t:TS} (h:jq w T a b c t) (s:Int):
  (Instr.lookup 198 (.map (some a)) (ω s) true).run prog w= .ok (.tuple #[θ #[ι ((qh t.o s).getD (0,0)).1,ι ((qh t.o s).getD (0,0)).2],μ (qh t.o s).isSome]) w:=by
 rw[h.mo.look Aa underlying198 (Aq w) s true];cases qh t.o s<;>rfl
theorem jq.lookS {w:World} {T a b c:Nat} {t:TS} (h:jq w T a b c t) (k:Og):
  (Instr.lookup 199 (.map (some b)) (θ #[ι k.1,ι k.2]) true).run prog w= .ok (.tuple #[ω ((qh t.s k).getD 0),μ (qh t.s k).isSome]) w:=by
 have:=h.ms.look Yr underlying199 (Ap w) k true;unfold kO at this;rw[this];cases qh t.s k<;>rfl
def sb0:Sb:=(0,false,0)
theorem jq.lookU {w:World} {T a b c:Nat} {t:TS} (h:jq w T a b c t) (x:Int):
  (Instr.lookup 200 (.map (some c)) (ι x) true).run prog w= .ok (.tuple #[θ #[ω ((qh t.u x).getD sb0).1,μ ((qh t.u x).getD sb0).2.1,ι ((qh t.u x).getD sb0).2.2],μ (qh t.u x).isSome]) w:=by
 rw[h.mu.look kE underlying200 (Vi w) x true];cases qh t.u x<;>rfl
theorem jq.lookU1 {w:World} {T a b c:Nat} {t:TS} (h:jq w T a b c t) (x:Int):
  (Instr.lookup 200 (.map (some c)) (ι x) false).run prog w= .ok (θ #[ω ((qh t.u x).getD sb0).1,μ ((qh t.u x).getD sb0).2.1,ι ((qh t.u x).getD sb0).2.2]) w:=by
 rw[h.mu.look kE underlying200 (Vi w) x false];cases qh t.u x<;>rfl
theorem Mv (w:World):Calls prog 39 #[] w λe w'=> ∃T a b c,e= .returned (γ T)/\w.heap.size<=T/\w.heap.size<=a/\w.heap.size<=b/\w.heap.size<=c/\jq w' T a b c ⟨[],[],[]⟩/\qa w w':=by
 go_enter func39,ntmps39
 have d:= @run_makeMap prog;go_wp2;go_ret;refine⟨w.heap.size+3,w.heap.size,w.heap.size+1,w.heap.size+2,η,τ,τ,τ,τ,⟨qC η,(jk.made w _ _).more (((qa.alloc _ _).al _).al _), ?_, ?_,τ,τ,τ⟩,(((qa.alloc _ _).al _).al _).al _⟩
 ·have:=(jk.made (w.alloc (.map #[] 0)) kO (Value.int .u32)).more ((qa.alloc _ (.map #[] 0)).al (.cells #[.map (some w.heap.size),.map (some (w.heap.size+1)),.map (some (w.heap.size+2))] 202))
  simpa using this
 ·have:=(jk.made ((w.alloc (.map #[] 0)).alloc (.map #[] 0)) (Value.int .i64) vS).more (qa.alloc _ (.cells #[.map (some w.heap.size),.map (some (w.heap.size+1)),.map (some (w.heap.size+2))] 202))
  simpa using this
theorem Le {w:World} {T a b c:Nat} {t:TS} (h:jq w T a b c t) (s:Int):
  Calls prog 136 #[γ T,ω s] w λe w'=>e= .returned (.tuple #[θ #[ι ((qh t.o s).getD (0,0)).1,ι ((qh t.o s).getD (0,0)).2],μ (qh t.o s).isSome])/\qa w w':=by
 have d:=h.more (qa.alloc w (.cells #[ι 0,ι 0] 50));have G:=β0 d.blk;have q:=d.lookO s;clear d h;generalize (qh t.o s).getD (0,0)=x at *
 go_enter func136,ntmps136
 go_wp2
 (refine bodyPost_ret (v:= .tuple #[θ #[ι x.1,ι x.2],μ (qh t.o s).isSome]) ?rr1 rfl ?_;(case rr1=>(simp[results,results136,go_sem])))
 exact⟨rfl,(qa.alloc _ _).al _⟩
theorem CC {w:World} {T a b c:Nat} {t:TS} (h:jq w T a b c t) (k:Og):
  Calls prog 123 #[γ T,θ #[ι k.1,ι k.2]] w λe w'=>e= .returned (.tuple #[ω ((qh t.s k).getD 0),μ (qh t.s k).isSome])/\qa w w':=by
 have d:=h.more (qa.alloc w (.cells #[ι k.1,ι k.2] 50));have H:=β1 d.blk;have q:=λn=>(d.more (qa.drewN _ n)).lookS k
 clear d h
 go_enter func123,ntmps123
 go_wp2;refine wp_region_quiet_lit ξ ξ ?_
 repeat (go_big_quiet_step (fail))
 refine wpQuiet_nil ?_;intro _ G;obtain⟨nq,rfl⟩:=G;go_wp2
 go_ret2
 exact⟨rfl,(qa.alloc _ _).dr _⟩
theorem LH {w:World} {T a b c:Nat} {t:TS} (h:jq w T a b c t) (x:Int):
  Calls prog 91 #[γ T,ι x] w λe w'=>e= .returned (.tuple #[ι ((qh t.u x).getD sb0).2.2,μ ((qh t.u x).getD sb0).2.1])/\qa w w':=by
 have G:=β2 h.blk;have q:=h.lookU1 x;clear h;generalize (qh t.u x).getD sb0=y at *
 go_enter func91,ntmps91
 go_wp2;refine wp_region_quiet_lit ξ ξ ?_
 repeat (go_big_quiet_step (fail))
 refine wpQuiet_nil ?_;intro _ d;obtain⟨nq,rfl⟩:=d;go_wp2
 go_ret2
 exact⟨rfl,(qa.alloc _ _).dr _⟩
theorem yC {w:World} {T a b c:Nat} {t:TS} (h:jq w T a b c t) (p:Int):
  Calls prog 110 #[γ T,ι p] w λe w'=>e= .returned (μ (qh t.s (p,0)).isSome)/\w=w':=by
 have d:=β1 h.blk;have q:=h.lookS (p,0);simp only at q;clear h
 go_enter func110,ntmps110
 go_wp2;go_ret;exact⟨rfl,rfl⟩
theorem vw (p:Int) (w:World) (h:0<=p/\p<3):Calls prog 108 #[ι p] w λe w'=>e= .returned (μ true)/\w=w':=by
 obtain⟨d,G⟩:=h
 go_enter func108,ntmps108
 go_wp2;go_ret;exact⟨qZ (by simp<;>omega),rfl⟩
theorem Z8 (p:Int) (w:World) (h: ¬(0<=p/\p<3)):Calls prog 108 #[ι p] w λe w'=>e= .returned (μ false)/\w=w':=by
 have d:p<0∨(0<=p/\3<=p):=by omega
 clear h;rcases d with h1 | ⟨h1,h2⟩
 ·go_enter func108,ntmps108
  go_wp2;go_ret;exact⟨qZ η,rfl⟩
 ·go_enter func108,ntmps108
  go_wp2;go_ret;exact⟨qZ (by simp<;>omega),rfl⟩
theorem xe (p:Int) (w:World) (h:0<=p/\p<6):Calls prog 111 #[ι p] w λe w'=>e= .returned (μ true)/\w=w':=by
 obtain⟨d,G⟩:=h
 go_enter func111,ntmps111
 go_wp2;go_ret;exact⟨qZ (by simp<;>omega),rfl⟩
theorem wl (p:Int) (w:World) (h: ¬(0<=p/\p<6)):Calls prog 111 #[ι p] w λe w'=>e= .returned (μ false)/\w=w':=by
 have d:p<0∨(0<=p/\6<=p):=by omega
 clear h;rcases d with h1 | ⟨h1,h2⟩
 ·go_enter func111,ntmps111
  go_wp2;go_ret;exact⟨qZ η,rfl⟩
 ·go_enter func111,ntmps111
  go_wp2;go_ret;exact⟨qZ (by simp<;>omega),rfl⟩
def yI (t:TS) (x own:Int):TS×Int:=if 0<=x/\x<6 then (if (qh t.u x).isSome then (t,6) else ({t with u:=qx t.u x (own,false,0)},0)) else (t,1)
def zW (t:TS) (x:Int):TS×Int:=if 0<=x/\x<6 then (if (qh t.u x).isSome then ({t with u:=yK t.u x},0) else (t,5)) else (t,1)
def vL (t:TS) (x p:Int):TS×Int:=if (0<=x/\x<6)/\(0<=p/\p<3) then (if (qh t.u x).isSome/\(qh t.s (p,0)).isSome then (if ((qh t.u x).getD sb0).2.1 then (t,6) else ({t with u:=qx t.u x (((qh t.u x).getD sb0).1,true,p)},0)) else (t,5)) else (t,1)
def zM (t:TS) (x:Int):TS×Int:=if 0<=x/\x<6 then (if (qh t.u x).isSome/\((qh t.u x).getD sb0).2.1 then ({t with u:=qx t.u x (((qh t.u x).getD sb0).1,false,0)},0) else (t,5)) else (t,1)
theorem jB {P:Program} {f:FuncId} {args:Array Value} {w:World} {T a b c:Nat} {r:TS×Int} {t':TS} {v:Int} (hr:r=(t',v)) (h:Calls P f args w λe w'=>e= .returned (ι v)/\jq w' T a b c t'/\qg (λz=>z=c) w w'):
  Calls P f args w λe w'=>e= .returned (ι r.2)/\jq w' T a b c r.1/\qg (λz=>z=c) w w':=by
 subst hr;exact h
theorem Ld {w:World} {T a b c:Nat} {t:TS} (h:jq w T a b c t) (x own:Int):
  Calls prog 73 #[γ T,ι x,ω own] w λe w'=>e= .returned (ι (yI t x own).2)/\jq w' T a b c (yI t x own).1/\qg (λz=>z=c) w w':=by
 have c2:=β2 h.blk;have q:=h.lookU x;have HT:=κ h;by_cases hx:0<=x/\x<6
 ·have HX:=κ hx;obtain⟨y,hy⟩:=ν ((qh t.u x).getD sb0);rw[hy] at q;clear hy;cases hs:(qh t.u x).isSome with
  | true=>
   refine jB (t':=t) (v:=6) (by unfold yI;rw[if_pos hx,if_pos hs]) ?_;rw[hs] at q;clear hx hs h
   go_enter func73,ntmps73
   go_wp2_with (go_at_call 111;(go_call xe x _ HX.o as e w2 ⟨rfl,rfl⟩))
   go_ret;exact⟨rfl,HT.o.more (qa.alloc _ _),qg.of_more (qa.alloc _ _)⟩
  | false=>
   refine jB (t':={t with u:=qx t.u x (own,false,0)}) (v:=0) (by unfold yI;rw[if_pos hx,hs];rfl) ?_;rw[hs] at q;clear hx hs h;have c3:=β2 (qs HT.o.blk (.cells #[ω y.1,y.2.1,ι y.2.2] 225));obtain⟨w9,hr,hm,ha,_⟩:=(HT.o.mu.more (qa.alloc w (.cells #[ω y.1,y.2.1,ι y.2.2] 225))).update kE underlying200 x (own,false,0);unfold vS at hr;simp only at hr;have HM:=κ hm;have HA:=κ ha;clear hm ha
   go_enter func73,ntmps73
   go_wp2_with (go_at_call 111;(go_call xe x _ HX.o as e w2 ⟨rfl,rfl⟩))
   go_ret;exact⟨rfl,(HT.o.more (qa.alloc w _)).putU HA.o HM.o,(qg.of_more (qa.alloc _ _)).trans HA.o⟩
 ·have HX:=κ hx;refine jB (t':=t) (v:=1) (by unfold yI;rw[if_neg hx]) ?_;clear hx q
  go_enter func73,ntmps73
  go_wp2_with (go_at_call 111;(go_call wl x _ HX.o as e w2 ⟨rfl,rfl⟩))
  go_ret;exact⟨rfl,HT.o,qg.refl _ _⟩
theorem FC {w:World} {T a b c:Nat} {t:TS} (h:jq w T a b c t) (x:Int):
  Calls prog 92 #[γ T,ι x] w λe w'=>e= .returned (ι (zW t x).2)/\jq w' T a b c (zW t x).1/\qg (λz=>z=c) w w':=by
 have c2:=β2 h.blk;have q:=h.lookU x;have HT:=κ h;by_cases hx:0<=x/\x<6
 ·have HX:=κ hx;obtain⟨y,hy⟩:=ν ((qh t.u x).getD sb0);rw[hy] at q;clear hy;cases hs:(qh t.u x).isSome with
  | false=>
   refine jB (t':=t) (v:=5) (by unfold zW;rw[if_pos hx,hs];rfl) ?_;rw[hs] at q;clear hx hs h
   go_enter func92,ntmps92
   go_wp2_with (go_at_call 111;(go_call xe x _ HX.o as e w2 ⟨rfl,rfl⟩))
   go_ret;exact⟨rfl,HT.o.more (qa.alloc _ _),qg.of_more (qa.alloc _ _)⟩
  | true=>
   refine jB (t':={t with u:=yK t.u x}) (v:=0) (by unfold zW;rw[if_pos hx,if_pos hs]) ?_;rw[hs] at q;clear hx hs h;have c3:=β2 (qs HT.o.blk (.cells #[ω y.1,y.2.1,ι y.2.2] 225));obtain⟨w9,hr,hm,ha,_⟩:=(HT.o.mu.more (qa.alloc w (.cells #[ω y.1,y.2.1,ι y.2.2] 225))).drop kE underlying200 x 0;have hr: ∀ty,(Builtin.delete_ #[200,3] ty #[.map (some c),ι x]).run prog (w.alloc (.cells #[ω y.1,y.2.1,ι y.2.2] 225))= .ok (.tuple #[]) w9:=λ_=>hr
   have HM:=κ hm;have HA:=κ ha;clear hm ha
   go_enter func92,ntmps92
   go_wp2_with (go_at_call 111;(go_call xe x _ HX.o as e w2 ⟨rfl,rfl⟩))
   go_ret;exact⟨rfl,(HT.o.more (qa.alloc w _)).putU HA.o HM.o,(qg.of_more (qa.alloc _ _)).trans HA.o⟩
 ·have HX:=κ hx;refine jB (t':=t) (v:=1) (by unfold zW;rw[if_neg hx]) ?_;clear hx q
  go_enter func92,ntmps92
  go_wp2_with (go_at_call 111;(go_call wl x _ HX.o as e w2 ⟨rfl,rfl⟩))
  go_ret;exact⟨rfl,HT.o,qg.refl _ _⟩
theorem Jf {w:World} {T a b c:Nat} {t:TS} (h:jq w T a b c t) (x p:Int):
  Calls prog 76 #[γ T,ι x,ι p] w λe w'=>e= .returned (ι (vL t x p).2)/\jq w' T a b c (vL t x p).1/\qg (λz=>z=c) w w':=by
 have c2:=β2 h.blk;have q:=h.lookU x;have HT:=κ h;by_cases hx:0<=x/\x<6
 ·have HX:=κ hx;by_cases hp:0<=p/\p<3
  ·have HP:=κ hp;obtain⟨y,hy⟩:=ν ((qh t.u x).getD sb0);cases hs:(qh t.u x).isSome with
   | false=>
    refine jB (t':=t) (v:=5) (by unfold vL;rw[if_pos ⟨hx,hp⟩,hs];rfl) ?_;rw[hs,hy] at q;clear hx hs h hp hy
    go_enter func76,ntmps76
    go_wp2_with first | (go_at_call 111;(go_call xe x _ HX.o as e w2 ⟨rfl,rfl⟩)) | (go_at_call 108;(go_call vw p _ HP.o as e w2 ⟨rfl,rfl⟩))
    go_ret;exact⟨rfl,HT.o.more (qa.alloc _ _),qg.of_more (qa.alloc _ _)⟩
   | true=>
    cases hps:(qh t.s (p,0)).isSome with
    | false=>
     refine jB (t':=t) (v:=5) (by unfold vL;rw[if_pos ⟨hx,hp⟩,hps];simp) ?_;have HPS:=κ hps;rw[hs,hy] at q;clear hx hs h hp hy hps
     go_enter func76,ntmps76
     go_wp2_with first | (go_at_call 111;(go_call xe x _ HX.o as e w2 ⟨rfl,rfl⟩)) | (go_at_call 108;(go_call vw p _ HP.o as e w2 ⟨rfl,rfl⟩)) | (go_at_call 110;(go_call yC (HT.o.more (qa.alloc w (.cells #[ω y.1,y.2.1,ι y.2.2] 225))) p as e w2 ⟨rfl,rfl⟩;rw[HPS.o]))
     go_ret;exact⟨rfl,HT.o.more (qa.alloc _ _),qg.of_more (qa.alloc _ _)⟩
    | true=>
     have HPS:=κ hps;cases hb:y.2.1 with
     | true=>
      refine jB (t':=t) (v:=6) (by unfold vL;rw[if_pos ⟨hx,hp⟩,if_pos ⟨hs,hps⟩,hy,hb];rfl) ?_;rw[hs,hy,hb] at q;clear hx hs h hp hy hps hb
      go_enter func76,ntmps76
      go_wp2_with first | (go_at_call 111;(go_call xe x _ HX.o as e w2 ⟨rfl,rfl⟩)) | (go_at_call 108;(go_call vw p _ HP.o as e w2 ⟨rfl,rfl⟩)) | (go_at_call 110;(go_call yC (HT.o.more (qa.alloc w (.cells #[ω y.1,true,ι y.2.2] 225))) p as e w2 ⟨rfl,rfl⟩;rw[HPS.o]))
      go_ret;exact⟨rfl,HT.o.more (qa.alloc _ _),qg.of_more (qa.alloc _ _)⟩
     | false=>
      refine jB (t':={t with u:=qx t.u x (y.1,true,p)}) (v:=0) (by unfold vL;rw[if_pos ⟨hx,hp⟩,if_pos ⟨hs,hps⟩,hy,hb];rfl) ?_;rw[hs,hy] at q;rw[hb] at q;clear hx hs h hp hy hps hb;have L0: ∀z:qt (w.alloc (.cells #[ω y.1,false,ι y.2.2] 225)),z.w'.cell? ⟨T,2,none⟩=some (.map (some c)):=λz=>qb (qc z.h (qs HT.o.blk _)) 2 rfl
      have L1: ∀z:qt (w.alloc (.cells #[ω y.1,false,ι y.2.2] 225)),z.w'.cell? ⟨w.heap.size,0,none⟩=some (ω y.1):=λz=>z.new 0 rfl
      obtain⟨w9,hr,hm,ha,_⟩:=((HT.o.mu.more (qa.alloc w (.cells #[ω y.1,false,ι y.2.2] 225))).more (qa.drewN _ 1)).update kE underlying200 x (y.1,true,p);unfold vS at hr;simp only at hr;have HM:=κ hm;have HA:=κ ha;clear hm ha
      go_enter func76,ntmps76
      go_wp2_with first | (go_at_call 111;(go_call xe x _ HX.o as e w2 ⟨rfl,rfl⟩)) | (go_at_call 108;(go_call vw p _ HP.o as e w2 ⟨rfl,rfl⟩)) | (go_at_call 110;(go_call yC (HT.o.more (qa.alloc w (.cells #[ω y.1,false,ι y.2.2] 225))) p as e w2 ⟨rfl,rfl⟩;rw[HPS.o]))
      refine Qn (w.alloc (.cells #[ω y.1,false,ι y.2.2] 225)) 9 10 [9] ?_
      refine Qq ?_
      (refine Qe ?_;intro K hK)
      refine hK _ _ ?_;clear hK K;refine qA ?_;go_wp2;go_ret;exact⟨rfl,((HT.o.more (qa.alloc w _)).more (qa.drewN _ 1)).putU HA.o HM.o,(qg.of_more ((qa.alloc _ _).dr 1)).trans HA.o⟩
  ·have HP:=κ hp;refine jB (t':=t) (v:=1) (by unfold vL;rw[if_neg (λh=>hp h.2)]) ?_;clear hx q hp
   go_enter func76,ntmps76
   go_wp2_with first | (go_at_call 111;(go_call xe x _ HX.o as e w2 ⟨rfl,rfl⟩)) | (go_at_call 108;(go_call Z8 p _ HP.o as e w2 ⟨rfl,rfl⟩))
   go_ret;exact⟨rfl,HT.o,qg.refl _ _⟩
 ·have HX:=κ hx;refine jB (t':=t) (v:=1) (by unfold vL;rw[if_neg (λh=>hx h.1)]) ?_;clear hx q
  go_enter func76,ntmps76
  go_wp2_with (go_at_call 111;(go_call wl x _ HX.o as e w2 ⟨rfl,rfl⟩))
  go_ret;exact⟨rfl,HT.o,qg.refl _ _⟩
theorem Zr {w:World} {T a b c:Nat} {t:TS} (h:jq w T a b c t) (x:Int):
  Calls prog 129 #[γ T,ι x] w λe w'=>e= .returned (ι (zM t x).2)/\jq w' T a b c (zM t x).1/\qg (λz=>z=c) w w':=by
 have c2:=β2 h.blk;have q:=h.lookU x;have HT:=κ h;by_cases hx:0<=x/\x<6
 ·have HX:=κ hx;obtain⟨y,hy⟩:=ν ((qh t.u x).getD sb0);cases hs:(qh t.u x).isSome with
  | false=>
   refine jB (t':=t) (v:=5) (by unfold zM;rw[if_pos hx,hs];rfl) ?_;rw[hs,hy] at q;clear hx hs h hy
   go_enter func129,ntmps129
   go_wp2_with (go_at_call 111;(go_call xe x _ HX.o as e w2 ⟨rfl,rfl⟩))
   go_ret;exact⟨rfl,HT.o.more (qa.alloc _ _),qg.of_more (qa.alloc _ _)⟩
  | true=>
   cases hb:y.2.1 with
   | false=>
    refine jB (t':=t) (v:=5) (by unfold zM;rw[if_pos hx,hy,hb];simp) ?_;rw[hs,hy,hb] at q;clear hx hs h hy hb
    go_enter func129,ntmps129
    go_wp2_with (go_at_call 111;(go_call xe x _ HX.o as e w2 ⟨rfl,rfl⟩))
    go_ret;exact⟨rfl,HT.o.more (qa.alloc _ _),qg.of_more (qa.alloc _ _)⟩
   | true=>
    refine jB (t':={t with u:=qx t.u x (y.1,false,0)}) (v:=0) (by unfold zM;rw[if_pos hx,hy,hb,hs];rfl) ?_;rw[hs,hy,hb] at q;clear hx hs h hy hb;have L0: ∀z:qt (w.alloc (.cells #[ω y.1,true,ι y.2.2] 225)),z.w'.cell? ⟨T,2,none⟩=some (.map (some c)):=λz=>qb (qc z.h (qs HT.o.blk _)) 2 rfl
    have L1: ∀z:qt (w.alloc (.cells #[ω y.1,true,ι y.2.2] 225)),z.w'.cell? ⟨w.heap.size,0,none⟩=some (ω y.1):=λz=>z.new 0 rfl
    obtain⟨w9,hr,hm,ha,_⟩:=((HT.o.mu.more (qa.alloc w (.cells #[ω y.1,true,ι y.2.2] 225))).more (qa.drewN _ 1)).update kE underlying200 x (y.1,false,0);unfold vS at hr;simp only at hr;have HM:=κ hm;have HA:=κ ha;clear hm ha
    go_enter func129,ntmps129
    go_wp2_with (go_at_call 111;(go_call xe x _ HX.o as e w2 ⟨rfl,rfl⟩))
    refine Qn (w.alloc (.cells #[ω y.1,true,ι y.2.2] 225)) 8 9 [8] ?_
    refine Qq ?_
    (refine Qe ?_;intro K hK)
    refine hK _ _ ?_;clear hK K;refine qA ?_;go_wp2;go_ret;exact⟨rfl,((HT.o.more (qa.alloc w _)).more (qa.drewN _ 1)).putU HA.o HM.o,(qg.of_more ((qa.alloc _ _).dr 1)).trans HA.o⟩
 ·have HX:=κ hx;refine jB (t':=t) (v:=1) (by unfold zM;rw[if_neg hx]) ?_;clear hx q
  go_enter func129,ntmps129
  go_wp2_with (go_at_call 111;(go_call wl x _ HX.o as e w2 ⟨rfl,rfl⟩))
  go_ret;exact⟨rfl,HT.o,qg.refl _ _⟩
def yU (pr:Sb->Bool) (u:List (Int×Sb)):List Int:=u.filterMap λp=>if pr p.2 then some p.1 else none
def uo (pr:Sb->Bool) (u:List (Int×Sb)):List Int:=srt (yU pr u)
def zV (own:Int) (x:Sb):Bool:=decide (x.1=own)
def j8 (pub:Int) (x:Sb):Bool:=x.2.1&&decide (x.2.2=pub)
theorem kg (d:Sb->Bool) (u:List (Int×Sb)):(yU d u).length<=u.length:=List.length_filterMap_le _ _
theorem uX {K V:Type} (L:List (K×V)) (is:List Nat):(zj L is).length<=is.length:=List.length_filterMap_le _ _
theorem ZB (d:Sb->Bool) (u:List (Int×Sb)) (p:Int×Sb):yU d (u++[p])=yU d u++(if d p.2 then [p.1] else []):=by
 unfold yU;rw[List.filterMap_append];by_cases h:d p.2=true<;>simp[h]
theorem Hi {w:World} {C:Nat} (d:Int) (x:Sb) (I:w.cell? ⟨C,0,none⟩=some (ω d)) (G:C<w.heap.size):
  Calls prog 214 #[θ #[ω x.1,x.2.1,ι x.2.2],γ C] w λe w'=>e= .returned (μ (zV d x))/\qa w w':=by
 have H:=(qa.alloc w (.cells #[ω x.1,x.2.1,ι x.2.2] 225)).cells C 0 G;rw[I] at H
 go_enter func214,ntmps214
 go_wp2;go_ret;exact⟨qZ (by unfold zV;rw[Bool.eq_iff_iff];simp),qa.alloc _ _⟩
theorem Hh {w:World} {C:Nat} (d:Int) (x:Sb) (J:w.cell? ⟨C,0,none⟩=some (ι d)) (M:C<w.heap.size):
  Calls prog 157 #[θ #[ω x.1,x.2.1,ι x.2.2],γ C] w λe w'=>e= .returned (μ (j8 d x))/\qa w w':=by
 have H:=(qa.alloc w (.cells #[ω x.1,x.2.1,ι x.2.2] 225)).cells C 0 M;rw[J] at H;cases hb:x.2.1 with
 | false=>
  have G:j8 d x=false:=by unfold j8;rw[hb];rfl
  rw[hb] at H
  go_enter func157,ntmps157
  go_wp2;go_ret;exact⟨qZ G.symm,qa.alloc _ _⟩
 | true=>
  have G:j8 d x=decide (x.2.2=d):=by unfold j8;rw[hb];rfl
  rw[hb] at H;have I:=κ G;clear G
  go_enter func157,ntmps157
  go_wp2;go_ret;exact⟨qZ (by rw[I.o,Bool.eq_iff_iff];simp),qa.alloc _ _⟩
theorem Ψ7 {P:Prop} (h:P:=by
 obtain⟨aY,hi,aV,aO,aJ⟩:=info_parts (P:=prog) (e:=3) (z:= ι 0) (size:=1) (bytes:=8) ξ;have c2:=β2 h.blk;have aH:=κ ap;have am:=κ aC;obtain⟨w1,bi,ay,aE,aQ⟩:=h.mu.range (P:=prog) underlying200;have bf:=h.mu.lt;have aZ:=κ ay;have aF:=κ aE;clear h aC ay aE aQ ap;generalize aI:t.u=u at *;clear aI
 go_enter func156,ntmps156
 go_wp2
 go_loopw [5] (λv5 wr=> ∃is:List Nat,jW wr w.heap.size c (Value.int .i64) vS u is/\wr.ownsRow (w.heap.size+1) 3 1 v5 (yU (Ξa v0) (zj u is)).length ((yU (Ξa v0) (zj u is)).map (Value.int .i64))/\qa w wr) (λ_ wr=>uO wr c w.heap.size)
 case atStart=>exact⟨[],aZ.o,World.ownsRow_nil _ _ _ _,aF.o⟩
 case round=>
  obtain⟨is,N,ae,ag⟩:=hrel;have an:=κ N;have O:=κ ae;have ak:=κ ag;have az:=κ N.left;rcases N.next (P:=prog) with ⟨aq,ai⟩ | ⟨i,aU,w2,bl,bb,ai,au,ab,aL,ar⟩
  ·clear N ae ag;have aB:=κ aq;clear aq;have aR:(yU (Ξa v0) (zj u is)).length<4611686018427387904:=by
    have aN:=kg (Ξa v0) (zj u is);have ba:=uX u is;have bj:=aB.o;have aK:=am.o;omega
   go_wp2_with (go_at_call 107;(go_call DQ O.o aR as e bk ⟨rfl,J,aw⟩;have aT:=κ J;have aW:=κ aw;clear J aw))
   go_ret;have aS:=an.o.perm aB.o;have aM:srt (yU (Ξa v0) (zj u is))=uo (Ξa v0) u:=gL (aS.filterMap _);have J:=aT.o;rw[aM] at J;refine⟨⟨_,rfl,SlI.of_owns J ?_,λq I=>by have:=jS O.o I;omega⟩,ak.o.grown aW.o ak.o.size ?_⟩
   ·have aN:=kg (Ξa v0) u;have ba:(uo (Ξa v0) u).length=(yU (Ξa v0) u).length:=vI _;have aK:=am.o;omega
   ·intro q I;have:=jS O.o I;omega
  ·have bd:=kg (Ξa v0) (zj u is);have be:=uX u is;have aD:=uW (L:=u) (is:=is) aU;have G:=ZB (Ξa v0) (zj u is) u[i];rw[<-aD] at G;have bg:=am.o;have bh:is.length<1000000:=by omega
   clear N ae ag aD;generalize u[i]=p at *;obtain⟨k,x⟩:=p;unfold vS at ai ar;simp only at ai ar G;have H:=κ (Yx O.o ab (λz aa=>by subst aa;exact Nat.lt_succ_self _));have aA:=κ (au.more (qa.alloc w2 (.cells #[ω x.1,x.2.1,ι x.2.2] 225)));have af:qa w w2:=qg.to_more ak.o ab (λz aa=>by subst aa;exact Nat.le_refl _);have ao:=κ af;have bc:w.heap.size+1<=w2.heap.size:=by have:=an.o.rlt;omega
   have U:=κ (qs (qc af aH.o) (.cells #[ω x.1,x.2.1,ι x.2.2] 225));clear au ab af aL;cases hpr:Ξa v0 x with
   | true=>
    rw[hpr,if_pos rfl] at G;have ac:=κ G;have aj:=κ hpr;clear G hpr
    go_wp2_with first | (((with_reducible refine(Ξb v0 x (qb U.o 0 rfl) (qn U.o)).mono ?_);rintro e w4 ⟨rfl,d⟩;rw[aj.o];have M:=κ (aA.o.more d);have ah:=κ (jE (H.o.alloc (.cells #[ω x.1,x.2.1,ι x.2.2] 225)) d);have Y:=κ ((ao.o.al (.cells #[ω x.1,x.2.1,ι x.2.2] 225)).trans d);have z4:w.heap.size+1<=w4.heap.size:=Nat.le_trans (by simp;omega) d.size;clear d)) | (at_builtin;refine qU _ rfl (.tmp 21) (.tmp 23) 75 rfl (w.heap.size+1) 3 aY (ι 0) 8 underlying75 hi aV aO aJ rfl _ .i64 (yU (Ξa v0) (zj u is)) rfl (ah.o.alloc _) _ [k] rfl (SlI.lit .i64 w4 [k] 3 _ 1 _ η rfl rfl η) (by simp;omega) ζ (by simp;omega) ?_;intro v6 w6 ax ad _;have aG:=κ ax;have av:=κ (qg.of_grown ad);have aX:=κ ad;clear ax ad)
    go_roundw
    case rel=>
     refine⟨is++[i],(M.o.more (qa.alloc _ _)).away av.o ?_ ?_, ?_, ?_⟩
     ·intro e;have:=jS H.o e;omega
     ·intro e;have:=jS H.o e;omega
     ·rw[ac.o];exact aG.o
     ·exact((Y.o.al _).grown aX.o (Y.o.al _).size (λq I=>by have:=jS H.o I;omega))
    case measure=>
     have aP:=(M.o.more (qa.alloc _ _)).away av.o (λe=>by have:=jS H.o e;omega) (λe=>by have:=jS H.o e;omega);rw[az.o,aP.left];simp;omega
   | false=>
    rw[hpr,if_neg η,List.append_nil] at G;have ac:=κ G;have aj:=κ hpr;clear G hpr
    go_wp2_with (((with_reducible refine(Ξb v0 x (qb U.o 0 rfl) (qn U.o)).mono ?_);rintro e w4 ⟨rfl,d⟩;rw[aj.o];have M:=κ (aA.o.more d);have ah:=κ (jE (H.o.alloc (.cells #[ω x.1,x.2.1,ι x.2.2] 225)) d);have Y:=κ ((ao.o.al (.cells #[ω x.1,x.2.1,ι x.2.2] 225)).trans d);clear d))
    go_roundw
    case rel=>exact⟨is++[i],M.o,by rw[ac.o];exact ah.o,Y.o⟩
    case measure=>
     rw[az.o,M.o.left];simp;omega):P:=h
section
open _root_.Go.Proofs.YtdgippmmaponfaaGreat renaming zV->Ξa,Hi->Ξb
theorem Ku {w:World} {T a b c C:Nat} {t:TS} (h:jq w T a b c t) (v0:Int) (ap:w.heap[C]? =some (.cells #[ω v0] 37 (0,0))) (aC:t.u.length<=1000000):
  Calls prog 156 #[γ T,.func (.func 214) #[] #[γ C]] w λe w'=>(∃v,e= .returned v/\SlI .i64 w' v (uo (zV v0) t.u)/\ ∀q,v.ownBlock=some q->w.heap.size<=q)/\qa w w':=Ψ7
end
section
open _root_.Go.Proofs.YtdgippmmaponfaaGreat renaming j8->Ξa,Hh->Ξb
theorem Dm {w:World} {T a b c C:Nat} {t:TS} (h:jq w T a b c t) (v0:Int) (ap:w.heap[C]? =some (.cells #[ι v0] 3 (0,0))) (aC:t.u.length<=1000000):
  Calls prog 156 #[γ T,.func (.func 157) #[] #[γ C]] w λe w'=>(∃v,e= .returned v/\SlI .i64 w' v (uo (j8 v0) t.u)/\ ∀q,v.ownBlock=some q->w.heap.size<=q)/\qa w w':=Ψ7
end
def Ge (x:Int) (l:List Int) (w:World) (e:Ending) (w':World):Prop:= ∃n:Int,(0<=n↔x∈l)/\ -1<=n/\e= .returned (.int .i64 n)/\w=w'
theorem Ψ8 {P:Prop} (h:P:=by
 obtain⟨ab,cap,rfl,ac,G,_⟩:=s
 go_enter Ξa,Ξb
 go_wp2
 go_loop [8] (λi=> ∃k:Nat,k<=l.length/\i= ι k/\x∉l.take k) (λi=>l.length-(intOf i).toNat)
 case atStart=>exact⟨0,τ,rfl,η⟩
 case round=>
  obtain⟨k,ae,rfl,d⟩:=hrel;by_cases hlt:k<l.length
  ·obtain⟨b,Y,rfl,ad,O⟩:=G k hlt;have af:(k:Int)<(l.length:Int):=by omega
   have J:l.getD k 0=l[k]:=by simp[hlt]
   rw[J] at O;have I:l.take (k+1)=l.take k++[l[k]]:=List.take_succ_eq_append_getElem hlt;have U:l[k]∈l:=List.getElem_mem hlt;have M:=κ I;have H:=κ d;clear G J I d;generalize l[k]=y at *;by_cases e:x=y
   ·subst e;go_wp2;go_ret;exact⟨k,⟨λ_=>U,λ_=>by omega⟩,τ,rfl,rfl⟩
   ·have aa:(x==y)=false:=by simpa using e
    have N:=κ e;clear e;go_wp2
    go_round
    case rel=>exact⟨k+1,τ,by go_num,by rw[M.o];simp;exact⟨H.o,N.o⟩⟩
    case measure=>simp[intOf];omega
  ·obtain rfl:k=l.length:=by omega
   clear G;have H:=κ d;clear d;go_wp2;go_ret;refine⟨-1,⟨λh=>by omega,λh=> ?_⟩,τ,rfl,rfl⟩;have:=H.o;rw[List.take_length] at this;exact absurd h this):P:=h
section
open _root_.Go.Proofs.Tryz renaming func154->Ξa,ntmps154->Ξb
theorem Lu {w:World} {v:Value} {l:List Int} (x:Int) (s:SlI .u32 w v l):Calls prog 154 #[v,ω x] w (Ge x l w):=Ψ8
end
theorem Yb {w:World} {v:Value} {l:List Int} (x:Int) (s:SlI .u32 w v l):Calls prog 109 #[v,ω x] w λe w'=>e= .returned (μ (decide (x∈l)))/\w=w':=by
 go_enter func109,ntmps109
 go_wp2_with (go_at_call 154;(go_call Lu x s as e w2 ⟨n,d,H,rfl,rfl⟩;have G:=κ d;clear d))
 go_ret;exact⟨qZ (by rw[Bool.eq_iff_iff];simp only[decide_eq_true_eq];exact G.o),rfl⟩
def oAt (o:List (Int×Og)) (p s0 s1 s2:Int):Nat->List (Int×Og)
 | 0=>o
 | 1=>qx o s0 (p,0)
 | 2=>qx (qx o s0 (p,0)) s1 (p,1)
 | _=>qx (qx (qx o s0 (p,0)) s1 (p,1)) s2 (p,2)
def sAt (s:List (Og×Int)) (p s0 s1 s2:Int):Nat->List (Og×Int)
 | 0=>s
 | 1=>qx s (p,0) s0
 | 2=>qx (qx s (p,0) s0) (p,1) s1
 | _=>qx (qx (qx s (p,0) s0) (p,1) s1) (p,2) s2
theorem BE (o:List (Int×Og)) (p s0 s1 s2:Int) (k:Nat) (h:k<3):oAt o p s0 s1 s2 (k+1)=qx (oAt o p s0 s1 s2 k) ([s0,s1,s2].getD k 0) (p,(k:Int)):=by
 have:k=0∨k=1∨k=2:=by omega
 rcases this with rfl | rfl | rfl<;>rfl
theorem AW (s:List (Og×Int)) (p s0 s1 s2:Int) (k:Nat) (h:k<3):sAt s p s0 s1 s2 (k+1)=qx (sAt s p s0 s1 s2 k) (p,(k:Int)) ([s0,s1,s2].getD k 0):=by
 have:k=0∨k=1∨k=2:=by omega
 rcases this with rfl | rfl | rfl<;>rfl
def KI (s0 s1 s2:Int):Prop:=s1=s0∨s2=s0∨s2=s1
instance (s0 s1 s2:Int):Decidable (KI s0 s1 s2):=by unfold KI;exact inferInstance
def vA (t:TS) (p s0 s1 s2:Int):TS×Int:=if 0<=p/\p<3 then (if KI s0 s1 s2 then (t,1) else if (qh t.s (p,0)).isSome then (t,6) else if (qh t.o s0).isSome∨(qh t.o s1).isSome∨(qh t.o s2).isSome then (t,6)
 else ({t with o:=oAt t.o p s0 s1 s2 3,s:=sAt t.s p s0 s1 s2 3},0)) else (t,1)
theorem IK {s0 s1 s2:Int} {k:Nat} (h:k<3) (d:[s0,s1,s2].getD k 0∈[s0,s1,s2].take k):KI s0 s1 s2:=by
 have:k=0∨k=1∨k=2:=by omega
 unfold KI;rcases this with rfl | rfl | rfl<;>simp at d<;>omega
theorem IJ {s0 s1 s2:Int} (h: ∀k,k<3->[s0,s1,s2].getD k 0∉[s0,s1,s2].take k): ¬KI s0 s1 s2:=by
 have d:=h 1 τ;have G:=h 2 τ;simp at d G;unfold KI;omega
theorem Np {p:Int->Prop} {s0 s1 s2:Int} {k:Nat} (h:k<3) (d:p ([s0,s1,s2].getD k 0)):p s0∨p s1∨p s2:=by
 have:k=0∨k=1∨k=2:=by omega
 rcases this with rfl | rfl | rfl
 ·exact Or.inl d
 ·exact Or.inr (Or.inl d)
 ·exact Or.inr (Or.inr d)
theorem Nr {p:Int->Prop} {s0 s1 s2:Int} (h: ∀k,k<3-> ¬p ([s0,s1,s2].getD k 0)): ¬(p s0∨p s1∨p s2):=by
 rintro(a | a | a)
 ·exact h 0 τ a
 ·exact h 1 τ a
 ·exact h 2 τ a
theorem Hy (s0 s1 s2:Int) (k:Nat) (h:k<3) (w:World):(Instr.index 39 (θ #[ω s0,ω s1,ω s2]) (ι (k:Int))).run prog w= .ok (ω ([s0,s1,s2].getD k 0)) w:=by
 have:k=0∨k=1∨k=2:=by omega
 rcases this with rfl | rfl | rfl
 all_goals first | rfl | simp[go_sem]
theorem sl3 (C k:Nat) (H:k<=3) (w:World):(Instr.sliceAt 39 (γ C) none (some (ι (k:Int))) none).run prog w= .ok (δ (some ⟨C,0,none⟩) k 3) w:=by
 have d:prog.arrayLen 39=3:=by kernel_rfl
 have G:(sizeOf (prog.elem 39)).run prog w= .ok 1 w:=by kernel_rfl
 rw[run_sliceAt_array_h w 39 ⟨C,0,none⟩ ξ .i64 (k:Int) τ (by rw[d];omega),G,d];simp[slicedAt,Addr.add]
theorem MQ {w:World} {C:Nat} {s0 s1 s2:Int} (h:w.heap[C]? =some (.cells #[ω s0,ω s1,ω s2] 39 (0,0))) (k:Nat) (G:k<=3):SlI .u32 w (δ (some ⟨C,0,none⟩) k 3) ([s0,s1,s2].take k):=by
 have d:([s0,s1,s2].take k).length=k:=by simp;omega
 refine⟨some ⟨C,0,none⟩,3,by rw[d],by rw[d];omega,λi hi=> ?_,by rw[d];exact G,by unfold maxLen;omega,λh=>by cases h⟩;rw[d] at hi;refine⟨C,0,rfl,qn h,qb h _ ?_⟩;have:i=0∨i=1∨i=2:=by omega
 rcases this with rfl | rfl | rfl
 ·have:([s0,s1,s2].take k).getD 0 0=s0:=by rw[List.getD_eq_getElem?_getD,List.getElem?_take_of_lt τ];rfl
  rw[this];rfl
 ·have:([s0,s1,s2].take k).getD 1 0=s1:=by rw[List.getD_eq_getElem?_getD,List.getElem?_take_of_lt τ];rfl
  rw[this];rfl
 ·have:([s0,s1,s2].take k).getD 2 0=s2:=by rw[List.getD_eq_getElem?_getD,List.getElem?_take_of_lt τ];rfl
  rw[this];rfl
def kJ (r:TS×Int) (T a b c:Nat) (w:World) (e:Ending) (w':World):Prop:=e= .returned (.int .i64 r.2)/\jq w' T a b c r.1/\qg (λz=>z=a∨z=b) w w'
theorem Dw {w:World} {T a b c:Nat} {t:TS} (h:jq w T a b c t) (p s0 s1 s2:Int):
    Calls prog 72 #[γ T,ι p,θ #[ω s0,ω s1,ω s2]] w (kJ (vA t p s0 s1 s2) T a b c w):=by
  by_cases hp:0<=p/\p<3
  · have H:=κ hp
    have G:=κ h
    have az:=qj w (.cells #[ω s0,ω s1,ω s2] 39)
    have aB:=κ az
    clear hp h az
    go_enter func72,ntmps72
    go_wp2_with (go_at_call 108;(go_call vw p _ H.o as e w2 ⟨rfl,rfl⟩))
    go_loop [20] (λi=> ∃k:Nat,k<=3/\i= ι k/\ ∀j,j<k->[s0,s1,s2].getD j 0∉[s0,s1,s2].take j) (λi=>3-(intOf i).toNat)
    case atStart=>exact⟨0,τ,rfl,λj am=>by omega⟩
    case round=>
      obtain⟨k,aE,rfl,U⟩:=hrel
      have I:=κ U
      clear U
      by_cases hk3:k<3
      · have aD:(k:Int)<3:=by omega
        have aG:=λw=>Hy s0 s1 s2 k hk3 w
        have aC:=κ (MQ aB.o k τ)
        have aZ:=λw'=>sl3 w.heap.size k τ w'
        have aP:=κ (IK (s0:=s0) (s1:=s1) (s2:=s2) hk3)
        have av:Hid (∀y,[s0,s1,s2].getD k 0=y->y∉[s0,s1,s2].take k-> ∀j,j<k+1->[s0,s1,s2].getD j 0∉[s0,s1,s2].take j):=κ (λy e ap j am=>by
          subst e
          by_cases e:j<k
          · exact I.o j e
          · obtain rfl:j=k:=by omega
            exact ap)
        generalize ah:[s0,s1,s2].getD k 0=y at *
        clear ah
        by_cases J:y∈[s0,s1,s2].take k
        · have Y:=κ J
          clear J
          go_wp2_with (go_at_call 109;(go_call Yb y aC.o as e w2 ⟨rfl,rfl⟩;rw[decide_eq_true Y.o]))
          go_ret
          have d:vA t p s0 s1 s2=(t,1):=by unfold vA;rw[if_pos H.o,if_pos (aP.o Y.o)]
          unfold kJ
          rw[d]
          exact⟨rfl,G.o.more (qa.alloc _ _),qg.of_more (qa.alloc _ _)⟩
        · have Y:=κ J
          clear J
          go_wp2_with (go_at_call 109;(go_call Yb y aC.o as e w2 ⟨rfl,rfl⟩;rw[decide_eq_false Y.o]))
          go_round
          case rel=>exact⟨k+1,τ,by go_num,av.o y rfl Y.o⟩
          case measure=>simp[intOf];omega
      · obtain rfl:k=3:=by omega
        have aj:=κ (IJ I.o)
        clear I
        cases hps:(qh t.s (p,0)).isSome with
        | true=>
          have M:=κ hps
          clear hps
          go_wp2_with (go_at_call 110;(go_call yC (G.o.more (qa.alloc w (.cells #[ω s0,ω s1,ω s2] 39))) p as e w2 ⟨rfl,rfl⟩;rw[M.o]))
          go_ret
          have d:vA t p s0 s1 s2=(t,6):=by unfold vA;rw[if_pos H.o,if_neg aj.o,if_pos M.o]
          unfold kJ
          rw[d]
          exact⟨rfl,G.o.more (qa.alloc _ _),qg.of_more (qa.alloc _ _)⟩
        | false=>
          have M:=κ hps
          clear hps
          go_wp2_with (go_at_call 110;(go_call yC (G.o.more (qa.alloc w (.cells #[ω s0,ω s1,ω s2] 39))) p as e w2 ⟨rfl,rfl⟩;rw[M.o]))
          go_loopw [33] (λi wr=> ∃k:Nat,k<=3/\i= ι k/\(∀j,j<k-> ¬(qh t.o ([s0,s1,s2].getD j 0)).isSome=true)/\qa (w.alloc (.cells #[ω s0,ω s1,ω s2] 39)) wr) (λi _=>3-(intOf i).toNat)
          case atStart=>exact⟨0,τ,rfl,λj am=>by omega,qa.refl _⟩
          case round=>
            obtain⟨k,aE,rfl,U,aH⟩:=hrel
            have I:=κ U
            have N:=κ aH
            clear U aH
            by_cases hk3:k<3
            · have aD:(k:Int)<3:=by omega
              have aG:=λw=>Hy s0 s1 s2 k hk3 w
              have ac:=(G.o.more (qa.alloc w _)).more N.o
              have ba:=β0 ac.blk
              have q:=ac.lookO ([s0,s1,s2].getD k 0)
              have aa:=κ (Np (p:=λz=>(qh t.o z).isSome=true) (s0:=s0) (s1:=s1) (s2:=s2) hk3)
              have av:Hid (∀y,[s0,s1,s2].getD k 0=y-> ¬(qh t.o y).isSome=true-> ∀j,j<k+1-> ¬(qh t.o ([s0,s1,s2].getD j 0)).isSome=true):=κ (λy e ap j am=>by
                subst e
                by_cases e:j<k
                · exact I.o j e
                · obtain rfl:j=k:=by omega
                  exact ap)
              have ae:=κ ac
              clear ac
              generalize ah:[s0,s1,s2].getD k 0=y at *
              clear ah
              cases hs:(qh t.o y).isSome with
              | true=>
                rw[hs] at q
                have aq:=κ hs
                clear hs
                go_wp2
                go_ret
                have d:vA t p s0 s1 s2=(t,6):=by
                  unfold vA
                  rw[if_pos H.o,if_neg aj.o,if_neg (by rw[M.o];simp),if_pos]
                  exact aa.o aq.o
                unfold kJ
                rw[d]
                exact⟨rfl,ae.o.more (qa.alloc _ _),qg.of_more (((qa.alloc _ _).trans N.o).al _)⟩
              | false=>
                rw[hs] at q
                have aq:=κ hs
                clear hs
                go_wp2
                go_roundw
                case rel=>exact⟨k+1,τ,by go_num,av.o y rfl (by rw[aq.o];simp),N.o.al _⟩
                case measure=>simp[intOf];omega
            · obtain rfl:k=3:=by omega
              have aX:=κ (Nr (p:=λz=>(qh t.o z).isSome=true) I.o)
              have ak:=κ (qc N.o aB.o)
              have aR:=β0 ak.o
              have aQ:=β1 ak.o
              have aV:=β2 ak.o
              have d:vA t p s0 s1 s2=({t with o:=oAt t.o p s0 s1 s2 3,s:=sAt t.s p s0 s1 s2 3},0):=by
                unfold vA
                rw[if_pos H.o,if_neg aj.o,if_neg (by rw[M.o];simp),if_neg aX.o]
              have au:=κ d
              have ae:=κ ((G.o.more (qa.alloc w _)).more N.o)
              have aU:=κ (qg.of_more (S:=λz=>z=a∨z=b) ((qa.alloc w (.cells #[ω s0,ω s1,ω s2] 39)).trans N.o))
              clear I d
              go_wp2_with fail
              clear aR aQ aV
              go_loopw [48] (λi aI=> ∃k:Nat,k<=3/\i= ι k/\jq aI T a b c {t with o:=oAt t.o p s0 s1 s2 k,s:=sAt t.s p s0 s1 s2 k}/\qg (λz=>z=a∨z=b) w aI) (λi _=>3-(intOf i).toNat)
              case atStart=>exact⟨0,τ,rfl,ae.o,aU.o⟩
              case round=>
                obtain⟨k,aE,rfl,aA,aJ⟩:=hrel
                have ai:=κ aA
                have aa:=κ aJ
                clear aA aJ
                by_cases hk3:k<3
                · have aD:(k:Int)<3:=by omega
                  have aG:=λw=>Hy s0 s1 s2 k hk3 w
                  have aO:=κ (BE t.o p s0 s1 s2 k hk3)
                  have aW:=κ (AW t.s p s0 s1 s2 k hk3)
                  generalize [s0,s1,s2].getD k 0=y at *
                  have aw:=κ (ai.o.more (qa.alloc wr (.cells #[ι p,ι (k:Int)] 50)))
                  have aY:=κ (qj wr (.cells #[ι p,ι (k:Int)] 50))
                  have bb:a<wr.heap.size:=ai.o.mo.lt
                  obtain⟨w9,ao,J,ab,_⟩:=(aw.o.mo.more (qa.drewN _ 1)).update Aa underlying198 y (p,(k:Int))
                  unfold kO at ao
                  simp only at ao
                  have ar:=κ ((aw.o.more (qa.drewN _ 1)).putO ab J)
                  have aK:=κ (ab.blk (qr aY.o 1) τ)
                  have aS:=κ ab
                  obtain⟨w8,ax,aL,af,_⟩:=(ar.o.ms.more (qa.drewN _ 1)).update Yr underlying199 (p,(k:Int)) y
                  unfold kO at ax
                  simp only at ax
                  have aN:=κ ((ar.o.more (qa.drewN _ 1)).putS af aL)
                  have aT:=κ af
                  clear J ab aL af
                  go_wp2_with fail
                  have ay: ∀z:qt (wr.alloc (.cells #[ι p,ι (k:Int)] 50)),z.w'.cell? ⟨T,0,none⟩=some (.map (some a)):=λz=>qb (qc z.h aw.o.blk) 0 rfl
                  have ag: ∀z:qt (wr.alloc (.cells #[ι p,ι (k:Int)] 50)),z.w'.cell? ⟨wr.heap.size,0,none⟩=some (ι p):=λz=>z.new 0 rfl
                  have an: ∀z:qt (wr.alloc (.cells #[ι p,ι (k:Int)] 50)),z.w'.cell? ⟨wr.heap.size,1,none⟩=some (ι (k:Int)):=λz=>z.new 1 rfl
                  refine Qn (wr.alloc (.cells #[ι p,ι (k:Int)] 50)) 6 7 [6] ?_
                  refine Qq ?_
                  (refine Qe ?_;intro K O)
                  refine O _ _ ?_
                  clear O K
                  refine qA ?_
                  clear ay ag an ao
                  go_wp2_with fail
                  have ay: ∀z:qt w9,z.w'.cell? ⟨T,1,none⟩=some (.map (some b)):=λz=>qb (qc z.h ar.o.blk) 1 rfl
                  have ag: ∀z:qt w9,z.w'.cell? ⟨wr.heap.size,0,none⟩=some (ι p):=λz=>qb (qc z.h aK.o) 0 rfl
                  have an: ∀z:qt w9,z.w'.cell? ⟨wr.heap.size,1,none⟩=some (ι (k:Int)):=λz=>qb (qc z.h aK.o) 1 rfl
                  refine Qn w9 6 7 [6] ?_
                  refine Qq ?_
                  (refine Qe ?_;intro K O)
                  refine O _ _ ?_
                  clear O K
                  refine qA ?_
                  clear ay ag an ax
                  go_wp2
                  go_roundw
                  case rel=>
                    have aF:jq w8 T a b c {t with o:=oAt t.o p s0 s1 s2 (k+1),s:=sAt t.s p s0 s1 s2 (k+1)}:=by rw[aO.o,aW.o];exact aN.o
                    have aM:=(((aa.o.trans (qg.of_more ((qa.alloc _ _).dr 1))).trans (aS.o.mono (λz ad=>Or.inl ad))).trans (qg.of_more (qa.drewN _ 1))).trans (aT.o.mono (λz ad=>Or.inr ad))
                    first
                      | exact⟨k+1,τ,by go_num,aF,aM⟩
                      | (repeat apply Exists.intro
                         exact⟨⟨k+1,τ,by go_num,aF,aM⟩,rfl⟩)
                  case measure=>simp[intOf];omega
                · obtain rfl:k=3:=by omega
                  go_wp2
                  go_ret
                  unfold kJ
                  rw[au.o]
                  exact⟨rfl,ai.o,aa.o⟩
  · have H:=κ hp
    have G:=κ h
    have d:vA t p s0 s1 s2=(t,1):=by unfold vA;rw[if_neg hp]
    have au:=κ d
    clear hp h d
    go_enter func72,ntmps72
    go_wp2_with (go_at_call 108;(go_call Z8 p _ H.o as e w2 ⟨rfl,rfl⟩))
    go_ret
    unfold kJ
    rw[au.o]
    exact⟨rfl,G.o.more (qa.alloc _ _),qg.of_more (qa.alloc _ _)⟩
end Go.Proofs.YtdgippmmaponfaaGreat
