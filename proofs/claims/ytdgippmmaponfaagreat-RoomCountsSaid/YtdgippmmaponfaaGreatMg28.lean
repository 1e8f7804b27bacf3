/- Contracts of the functions that the law reaches, and plain laws; no conditions but those written at each. -/
import Derived.Test.YtdgippmmaponfaaGreatMg25
namespace Go.Proofs.YtdgippmmaponfaaGreat
open Go.Value renaming bool->μ,slice->δ,pointer->π,agg->θ
open Go.IntKind renaming i64->ι,u8->υ,u16->φ,u32->ω,i32->χ,u64->ψ
set_option linter.unusedSimpArgs false
set_option maxHeartbeats 8000000
set_option linter.unusedVariables false
open Go.RowKit
set_option maxRecDepth 100000
theorem PW (s:RmS) (w:Og):(s.drain w).cfg=s.cfg:=by
 unfold RmS.drain;split
 ·rfl
 ·split
  ·exact(za vn s.origins s).cfg
  ·exact(vt s w).cfg
theorem Be (s:RmS):s.read.cfg=s.cfg:=by
 unfold RmS.read;split
 ·rfl
 ·split
  ·unfold RmS.tell;split
   ·exact(ko _ _).cfg
   ·rfl
  ·unfold RmS.media;split
   ·split
    ·rfl
    ·unfold RmS.accept;split<;>rfl
   ·rfl
theorem GE (s:RmS) (w:Og) (acc:Bool):(s.stepW w acc).cfg=s.cfg:=by
 unfold RmS.stepW;split
 ·unfold RmS.endW;split<;>exact PW s w
 ·split
  ·exact Be s
  ·split
   ·exact(kr s).cfg
   ·split
    ·exact(vu s _).cfg
    ·split
     ·exact(yA s _).cfg
     ·unfold RmS.write;split<;>rfl
theorem Fp (s:RmS) (a:A22):(doR s a).1.cfg=s.cfg:=by
 unfold doR;split
 ·unfold RmS.arrive
  repeat' split
  all_goals rfl
 ·split
  ·unfold RmS.pick;split
   ·exact GE s _ _
   ·rfl
  ·split
   ·unfold RmS.tick;split
    ·rfl
    ·exact(ur s.origins {s with clock:=s.clock+1}).cfg
   ·unfold RmS.publish RmS.join RmS.subscribe RmS.want RmS.leave RmS.shut
    repeat' split
    all_goals rfl
def Gn:qL Value:=λ_ cs y=>cs=[y]
abbrev noD:Nat->Prop:=λ_=>False
def Gi (v:Value):List Nat:=match v.ownBlock with
 | some b=>[b]
 | none=>[]
theorem ownL_iff {v:Value} {b:Nat}:b∈Gi v↔v.ownBlock=some b:=by
 unfold Gi;cases h:v.ownBlock with
 | none=>simp
 | some c=>simp[eq_comm]
structure wv (w1 w:World) (v:Value) (L:List (List Int)):Prop where
 ex: ∃xs,je 1 Gn noD w w1.heap.size 34 v xs/\xs.length=L.length/\ ∀(i:Nat) (b:List Int),L[i]? =some b-> ∃x,xs[i]? =some x/\SlI .u8 w1 x b/\Byt b
theorem RowV.stays {w w':World} {base:Nat} {v:Value} {xs:List Value} {F:List Nat} (h:je 1 Gn noD w base 34 v xs) (t:qw F w w') (J: ∀b,v.ownBlock=some b->b∈F):je 1 Gn noD w' base 34 v xs:=by
 obtain⟨⟨M,⟨G,d⟩,H⟩,I⟩:=h;refine⟨⟨M,⟨G, ?_⟩,λi hi=>λ_ _=>(H i hi).read⟩,I⟩;rcases d with d | ⟨g,cap,cur,e,k1,k2,k3⟩
 ·exact Or.inl d
 ·exact Or.inr ⟨g,cap,cur,e,k1,t.blk (J g (by rw[e];rfl)) k2,k3⟩
theorem wv.stays {w1 w w':World} {v:Value} {L:List (List Int)} {F:List Nat} (h:wv w1 w v L) (t:qw F w w') (H: ∀b,v.ownBlock=some b->b∈F):wv w1 w' v L:=by
 obtain⟨xs,d,G⟩:=h.ex;exact⟨xs,RowV.stays d t H,G⟩
theorem wv.lt {w1 w:World} {v:Value} {L:List (List Int)} (h:wv w1 w v L) {b:Nat} (d:v.ownBlock=some b):w1.heap.size<=b/\b<w.heap.size:=by
 obtain⟨xs,G,_⟩:=h.ex;refine⟨G.ge d, ?_⟩;obtain⟨⟨J,⟨_,H⟩,_⟩,_⟩:=G;rcases H with ⟨rfl,_⟩ | ⟨g,cap,cur,rfl,_,I,_⟩
 ·cases d
 ·injection d with d
  subst d;exact lt_of_block I
theorem wv.on {w1 w w':World} {v:Value} {L:List (List Int)} (h:wv w1 w v L) (m:qa w w'):wv w1 w' v L:=
 h.stays (F:=Gi v) ⟨m.size,λb d=>m.block b (h.lt (ownL_iff.1 d)).2⟩ (λb d=>ownL_iff.2 d)
theorem wv.shape {w1 w:World} {v:Value} {L:List (List Int)} (h:wv w1 w v L): ∃oa cap,v= δ oa L.length cap/\ ∀i,i<L.length-> ∃g x,oa=some ⟨g,0,none⟩/\g<w.heap.size/\w.cell? ⟨g,i,none⟩=some x/\SlI .u8 w1 x (L.getD i [])/\Byt (L.getD i []):=by
 obtain⟨xs,O,d,U⟩:=h.ex;obtain⟨⟨M,⟨ag,ac⟩,ad⟩,_⟩:=O;rcases ac with ⟨rfl,N⟩ | ⟨g,cap,cur,rfl,_,J,ah,_,af,aa⟩
 ·exact⟨none,0,by rw[<-d,N],λi hi=>by omega⟩
 ·refine⟨_,cap,by rw[<-d],λi hi=> ?_⟩;obtain⟨x,e,ae,Y⟩:=U i (L.getD i []) (by rw[List.getElem?_eq_getElem hi];simp[hi]);refine⟨g,x,rfl,lt_of_block J, ?_,ae,Y⟩;have G:i<xs.length:=by omega
  have H:=(ad i G).read;have ab:xs[i]=x:=by
   rw[List.getElem?_eq_getElem G] at e;exact Option.some.inj e
  rw[ab] at H;have I:M[i]? =some x:=by
   have:((M.drop (i* 1)).take 1)[0]? =[x][0]? :=by rw[H]
   rw[List.getElem?_take,if_pos ζ,List.getElem?_drop,Nat.mul_one,Nat.add_zero] at this;exact this
  rw[cell_of_row w g i cur _ (0,0) J,<-Array.getElem?_toList];rw[<-aa,List.getElem?_take,if_pos τ] at I;exact I
theorem wv.push {w1 w:World} {v x:Value} {b:List Int} {L:List (List Int)} (h:wv w1 w v L) (O:SlI .u8 w1 x b) (M:Byt b):
  ∃xs,je 1 Gn noD w w1.heap.size 34 v xs/\xs.length=L.length/\ ∀w' v',je 1 Gn noD w' w1.heap.size 34 v' (xs++[x])->wv w1 w' v' (L++[b]):=by
 obtain⟨xs,I,G,J⟩:=h.ex;refine⟨xs,I,G,λw' v' H=>⟨xs++[x],H,by simp[G],λi c d=> ?_⟩⟩;by_cases hi:i<L.length
 ·rw[List.getElem?_append_left hi] at d;rw[List.getElem?_append_left τ];exact J i c d
 ·rw[List.getElem?_append_right τ] at d;rw[List.getElem?_append_right τ];obtain⟨N,e⟩:=List.getElem?_eq_some_iff.1 d;have e0:i-L.length=0:=by simp at N;omega
  rw[show i-xs.length=0 by omega];simp only[e0,List.getElem_cons_zero] at e;subst e;exact⟨x,rfl,O,M⟩
theorem RmR.grow {G w w':World} {R:Nat} {s:RmS} {F Fn:List Nat} (h:RmR G w R s F) (a:qg (λb=>b∈F) w w') (H: ∀b∈Fn,b∈F∨(w.heap.size<=b/\b<w'.heap.size)):RmR G w' R s Fn:=by
 obtain⟨k,rfl,T,vp,J,h⟩:=h;have d:=h.mut a;refine⟨k,rfl,T,vp,J,d.all,d.ge,λb I=> ?_,d.more⟩;rcases H b I with e | e
 ·exact d.law b e
 ·exact⟨h.fresh b e.1,Nat.le_trans h.more.size e.1,e.2⟩
section
open _root_.Go.Proofs.Tryz
theorem Io:uf pk0/\uj pk0/\jJ pk0=true:=
 ⟨⟨ζ,⟨ζ,ζ⟩,⟨ζ,ζ⟩,⟨ζ,ζ⟩,λ_=>⟨by simp[pk0],by simp[pk0]⟩,⟨ζ,ζ⟩,λ_=>by simp[pk0],λ_=>by simp[pk0]⟩,⟨ζ,ζ,ζ⟩,ζ⟩
theorem GN {b:List Int} (h: ¬(jl b).2=0):(jl b).1=pk0:=by
 unfold jl at h ⊢;split
 ·rfl
 ·rename_i G;rw[if_neg G] at h;unfold JJ at h ⊢;split
  ·rename_i d;rw[if_pos d] at h;exact absurd rfl h
  ·rfl
theorem Uw {b:List Int} (I:Byt b):uf (jl b).1/\uj (jl b).1/\jJ (jl b).1=true:=by
 by_cases h:(jl b).2=0
 ·obtain⟨d,G,H,_⟩:=Xc I h;exact⟨d,G,H⟩
 ·rw[GN h];exact Io
theorem Ig {v:Value} {b:List Int} {w:World} (d:SlI .u8 w v b) (G:Byt b):Calls prog 14 #[v] w λe w'=>
  ∃vs ve vp,e= .returned (.tuple #[θ #[μ (jl b).1.mr,υ (jl b).1.ty,φ (jl b).1.sq,ω (jl b).1.st,ω (jl b).1.sc,vs,μ (jl b).1.has,φ (jl b).1.pr,ve,vp],ι (jl b).2])/\PkS w' vs ve vp (jl b).1/\qa w w':=by
 by_cases hl:(200:Int)<b.length
 ·exact Wc v b w d hl
 ·exact Ky v b w d G hl
theorem Ai {p:Pk} {G d vp:Value} {w:World} (h:PkS w G d vp p) (I:uf p) (M:jJ p=true):
  Calls prog 13 #[(Γq p G d vp)] w λe w'=> ∃o c,e= .returned (.tuple #[δ o (pkB p).length c,ι 0])/\SlI .u8 w' (δ o (pkB p).length c) (pkB p)/\qa w w':=by
 refine(gi p G d vp w h I M).mono ?_;rintro e w' ⟨⟨v,rfl,H⟩,m⟩;have J:=kP H;have s:=SlI.of_owns H J;obtain⟨o,c,rfl,_⟩:=id s;exact⟨o,c,rfl,s,m⟩
def DD (b:List Int) (a:AcS):Bool:=decide ((jl b).2=0)&& !Zd b&&decide (pkB (jl b).1=pkB a.pk)
theorem IE {b:List Int} {a:AcS} (h:DD b a=false): ¬CZ b a:=by
 rintro⟨d,G,_⟩;unfold DD at h;rw[d] at h;have e:Zd b=Ve b:=by unfold Zd Ve;rw[Bool.and_assoc]
 rw[e,G] at h;simp at h
def vZ (came:List (List Int)) (a:Nat) (q:Bool) (pa:AcS) (P:List AcS):Prop:=yl came a (if q then P else pa::P)
theorem BV {came:List (List Int)} {a y:Nat} {pa:AcS} {L:List AcS} (h:yl came a (L.drop y)) (G:L[y]? =some pa):vZ came a false pa (L.drop (y+1)):=by
 obtain⟨d,e⟩:=List.getElem?_eq_some_iff.1 G;rw[List.drop_eq_getElem_cons d,e] at h;exact h
theorem vZ.num {came:List (List Int)} {a:Nat} {pa:AcS} {P:List AcS} (h:vZ came a false pa P):pa.num%65536=pa.pk.sq:=by
 obtain⟨C,_,d⟩:=h;obtain⟨c,H,_,G,_⟩:=d.uncons;exact G.2.2
theorem vZ.some {came:List (List Int)} {a:Nat} {pa:AcS} {P:List AcS} (h:vZ came a false pa P):a<came.length:=yl.some h
theorem vZ.step {came:List (List Int)} {a:Nat} {pa:AcS} {P:List AcS} (h:vZ came a false pa P):vZ came (a+1) (DD (came.getD a []) pa) pa P:=by
 have d:=h.some;have e:came.getD a []=came[a]:=by simp[d]
 rw[e];cases hf:DD came[a] pa with
 | true=>exact yl.take h d
 | false=>exact yl.skip h d (IE hf)
theorem GS {w:World} {b t:Nat} (d cs:List Value) (h:w.heap[b]? =some (.cells (d++cs).toArray t (0,0))):w.rangeAt b d.length cs:=λj v G=>by
 refine qb h (d.length+j) ?_;simp only[List.getElem?_toArray];rw[List.getElem?_append_right τ,Nat.add_sub_cancel_left];exact G
theorem GT {w:World} {b t:Nat} (cs:List Value) (h:w.heap[b]? =some (.cells cs.toArray t (0,0))):w.rangeAt b 0 cs:=λj v d=>by
 rw[Nat.zero_add];exact qb h j (by simpa using d)
theorem Mk (a0 d G a3 a4:Int) (w:World):(Instr.field 45 (θ #[ι a0,ι d,ι G,ι a3,ι a4]) 4).run prog w= .ok (ι a4) w:=rfl
theorem Fr {n:Nat} {s:RmS} {came:List (List Int)} (h:yE came s) (d:qV n s): ∃n0 n1 n2 n3 n4 ql:Nat,s.cnt=⟨n0,n1,n2,n3,n4⟩/\s.queue.length=ql/\came.length=n0+n1+n2+n3+n4+ql/\(ql:Int)<=s.cfg.room:=by
 have I:=h.sum;obtain⟨a0,_⟩:=d.num.lost;obtain⟨G,_⟩:=d.num.malf;obtain⟨H,_⟩:=d.num.strange;obtain⟨a3,_⟩:=d.num.told;have a4:=d.num.acc;have a5:=d.num.fit;refine⟨s.cnt.lost.toNat,s.cnt.malf.toNat,s.cnt.strange.toNat,s.cnt.told.toNat,s.cnt.acc.toNat,s.queue.length, ?_,rfl,τ,a5⟩;rw[Int.toNat_of_nonneg a0,Int.toNat_of_nonneg G,Int.toNat_of_nonneg H,Int.toNat_of_nonneg a3,Int.toNat_of_nonneg τ]
end
section
open _root_.Go.Proofs.Tryz
theorem XZ (c:CfR) (N:Option Addr) (n cap:Nat) (w:World) (h:xY c=false):
  Calls prog 3 #[θ #[ι c.room,ι c.hold,ι c.wait,ι c.space,ι c.retry,ι c.most],δ N n cap] w λe w'=>e= .returned (μ true)/\qa w w':=by
 have I:=κ (YL c h);clear h
 go_enter func3,ntmps3
 go_wp2_with (first | (go_at_call 6;(go_call yM _ as e w1 ⟨rfl,G⟩;have d:=κ (qc G (qj w (.cells #[ι c.room,ι c.hold,ι c.wait,ι c.space,ι c.retry,ι c.most] 25)));have J:Hid (qa w w1):=κ ((qa.alloc _ _).trans G);have O:w1.cell? ⟨w.heap.size,0,none⟩=some (ι c.room):=qb d.o 0 rfl;have U:w1.cell? ⟨w.heap.size,1,none⟩=some (ι c.hold):=qb d.o 1 rfl;have Y:w1.cell? ⟨w.heap.size,2,none⟩=some (ι c.wait):=qb d.o 2 rfl;have aa:w1.cell? ⟨w.heap.size,3,none⟩=some (ι c.space):=qb d.o 3 rfl;have ab:w1.cell? ⟨w.heap.size,4,none⟩=some (ι c.retry):=qb d.o 4 rfl;have ac:w1.cell? ⟨w.heap.size,5,none⟩=some (ι c.most):=qb d.o 5 rfl;clear G)) | (go_at_call 7;(go_call I.o _ as e w2 ⟨rfl,H⟩;have M:Hid (qa w w2):=κ (J.o.trans H);clear H)))
 go_ret;exact⟨rfl,M.o⟩
theorem QL (c:CfR) (v:Value) (l:List A22) (w:World) (h:xY c=true) (O:SlP 14 uh w v l) (J:yk l=true):
  Calls prog 3 #[θ #[ι c.room,ι c.hold,ι c.wait,ι c.space,ι c.retry,ι c.most],v] w λe w'=>e= .returned (μ true)/\qa w w':=by
 have U:=κ (JN c h);have H:=κ (λw1 (G:qa w w1)=>uS v l w1 (O.keep kj G));rw[J] at H;clear h O J
 go_enter func3,ntmps3
 go_wp2_with (first | (go_at_call 6;(go_call yM _ as e w1 ⟨rfl,G⟩;have d:=κ (qc G (qj w (.cells #[ι c.room,ι c.hold,ι c.wait,ι c.space,ι c.retry,ι c.most] 25)));have Y:Hid (qa w w1):=κ ((qa.alloc _ _).trans G);have ad:w1.cell? ⟨w.heap.size,0,none⟩=some (ι c.room):=qb d.o 0 rfl;have ae:w1.cell? ⟨w.heap.size,1,none⟩=some (ι c.hold):=qb d.o 1 rfl;have af:w1.cell? ⟨w.heap.size,2,none⟩=some (ι c.wait):=qb d.o 2 rfl;have ag:w1.cell? ⟨w.heap.size,3,none⟩=some (ι c.space):=qb d.o 3 rfl;have ah:w1.cell? ⟨w.heap.size,4,none⟩=some (ι c.retry):=qb d.o 4 rfl;have ai:w1.cell? ⟨w.heap.size,5,none⟩=some (ι c.most):=qb d.o 5 rfl;clear G)) | (go_at_call 7;(go_call U.o _ as e w2 ⟨R,rfl,ab,M⟩;have I:Hid (qa w w2):=κ (Y.o.trans M);clear ab M)) | (go_at_call 8;(go_call H.o _ I.o as e ac ⟨rfl,N⟩;have aa:Hid (qa w ac):=κ (I.o.trans N);clear N)))
 go_ret;exact⟨rfl,aa.o⟩
theorem IS (c:CfR):yE [] (ud c):=⟨by simp[ud],[],by simp[ud],trivial⟩
theorem Cp (w1 w:World):wv w1 w (δ none 0 0) []:=⟨[],je.nil _ _ _ _ _ _,rfl,λi b h=>by simp at h⟩
theorem Js (c:CfR) (v:Value) (l:List A22) (w:World) (h:xY c=true) (bs:SlP 14 uh w v l) (bl:yk l=false):
  Calls prog 3 #[θ #[ι c.room,ι c.hold,ι c.wait,ι c.space,ι c.retry,ι c.most],v] w λe w'=>e= .returned (μ true)/\qa w w':=by
 have df:=κ (JN c h);have dh:=κ (uQ h);have bC:=κ (λw1 (aw:qa w w1)=>uS v l w1 (bs.keep kj aw));rw[bl] at bC;obtain⟨ex,cap,rfl,ei,cn⟩:=Yt bs;have cZ:=κ cn;have bO:=κ (Xj bl);have eh:l.length<=150:=bO.o.1;clear h bs bl cn
 go_enter func3,ntmps3
 go_wp2_with (first | (go_at_call 6;(go_call yM _ as e w1 ⟨rfl,aw⟩;have N:=κ (qc aw (qj w (.cells #[ι c.room,ι c.hold,ι c.wait,ι c.space,ι c.retry,ι c.most] 25)));have am:Hid (qa w w1):=κ ((qa.alloc _ _).trans aw);have ey:w1.cell? ⟨w.heap.size,0,none⟩=some (ι c.room):=qb N.o 0 rfl;have ez:w1.cell? ⟨w.heap.size,1,none⟩=some (ι c.hold):=qb N.o 1 rfl;have eA:w1.cell? ⟨w.heap.size,2,none⟩=some (ι c.wait):=qb N.o 2 rfl;have eB:w1.cell? ⟨w.heap.size,3,none⟩=some (ι c.space):=qb N.o 3 rfl;have eC:w1.cell? ⟨w.heap.size,4,none⟩=some (ι c.retry):=qb N.o 4 rfl;have eD:w1.cell? ⟨w.heap.size,5,none⟩=some (ι c.most):=qb N.o 5 rfl;clear aw)) | (go_at_call 7;(go_call df.o _ as e w2 ⟨R,rfl,cg,bp⟩;have bT:Hid (qa w w2):=κ (am.o.trans bp);have cT:=κ cg;have cR:=κ (qc bp N.o);clear cg bp)) | (go_at_call 8;(go_call bC.o _ bT.o as e dV ⟨rfl,aQ⟩;have cU:=κ (cT.o.on aQ);have dW:=κ (qc aQ cR.o);have aL:Hid (qa w dV):=κ (bT.o.trans aQ);clear aQ)))
 go_loopw [7,41] (λv i wr=> ∃j:Nat,j<=l.length/\i= ι j/\ ∃(s:RmS) (came:List (List Int)),yE came s/\came.length<=j/\s.cfg=c/\RmR w1 wr R s (Gi v)/\qV j s/\wv w1 wr v came) (λ_ i _=>l.length-(intOf i).toNat)
 case atStart=>exact⟨0,τ,rfl,_,_,IS c,Nat.le_refl _,rfl,cU.o,dh.o,Cp _ _⟩
 case round=>
  obtain⟨j,eg,rfl,s,came,U,ao,cl,ap,cq,ag⟩:=hrel;have M:=κ ap;have ab:=κ cq;have bA:=κ U;have aH:=κ ao;have cX:=κ cl;have aG:=κ ag;clear ap cq U ao cl ag;by_cases hlt:j<l.length
  ·obtain⟨b,dS,H,G,rfl,d,cI,bn,cy,cA,cz,cH⟩:=cZ.o j hlt;have bK:=κ (cI wr (am.o.trans M.o.more));have bD:=κ (bO.o.2 j hlt);have bM:=κ (bn.keep am.o);have bN:=κ (bn.keep ((am.o.trans M.o.more).al (.cells #[ι (l.getD j jv).act,ι (l.getD j jv).sub,ι (l.getD j jv).pub,ι (l.getD j jv).layer,δ H (l.getD j jv).b.length G,ι (l.getD j jv).w.1,ι (l.getD j jv).w.2,μ (l.getD j jv).acc,ω (l.getD j jv).own,ω (l.getD j jv).stamp,φ (l.getD j jv).seq,ω (l.getD j jv).s0,ω (l.getD j jv).s1,ω (l.getD j jv).s2] 41)));have aE:=κ cy;have bR:=κ cA;have bI:=κ cz;have bQ:=κ cH;have dF:(j:Int)<(l.length:Int):=by omega
   clear cI bn cy cA cz cH d;generalize l.getD j jv=x at *;have bJ:=κ (M.o.adds (Fn:=[wr.heap.size]) (qa.alloc wr (.cells #[ι x.act,ι x.sub,ι x.pub,ι x.layer,δ H x.b.length G,ι x.w.1,ι x.w.2,x.acc,ω x.own,ω x.stamp,φ x.seq,ω x.s0,ω x.s1,ω x.s2] 41)) (λb d=>(by simp at d;subst d;simp)));have bv:=κ (qj wr (.cells #[ι x.act,ι x.sub,ι x.pub,ι x.layer,δ H x.b.length G,ι x.w.1,ι x.w.2,x.acc,ω x.own,ω x.stamp,φ x.seq,ω x.s0,ω x.s1,ω x.s2] 41));have ba:=κ (HV bJ.o ab.o τ x H G bN.o aE.o bD.o bI.o bR.o);have bc:=κ (KZ ab.o M.o.tkeys x aE.o bD.o bQ.o);have aI:=κ (aG.o.on (qa.alloc wr (.cells #[ι x.act,ι x.sub,ι x.pub,ι x.layer,δ H x.b.length G,ι x.w.1,ι x.w.2,x.acc,ω x.own,ω x.stamp,φ x.seq,ω x.s0,ω x.s1,ω x.s2] 41)));have aF:=κ (IQ bA.o ab.o x);have aY:Hid ((doR s x).1.cfg=c):=κ (by rw[Fp];exact cX.o);have bS:Hid (SlI .u8 w1 (δ H x.b.length G) x.b):=κ (bM.o);obtain⟨s2,bo⟩:=ν ((doR s x).1);obtain⟨cf,co⟩:=ν ((doR s x).2.1);rw[bo,co] at ba aF;rw[bo] at bc aY;clear bo co;obtain⟨dQ,dB,rfl,_⟩:=aG.o.shape
   go_upto_region 11 with (first | (refine wpList_load_mid rfl 41 (.tmp 43) rfl b (dS+j* 14) rfl [ι x.act,ι x.sub,ι x.pub,ι x.layer,δ H x.b.length G,ι x.w.1,ι x.w.2,x.acc,ω x.own,ω x.stamp,φ x.seq,ω x.s0,ω x.s1,ω x.s2] _ bK.o underlying41 rfl ξ ?_) | (go_at_call 9;(go_call ba.o as e w5 ⟨rfl,ch,t5⟩;have aD:=κ ch;have aX:=κ (aI.o.stays t5 (λb d=>List.mem_append.2 (Or.inr (ownL_iff.2 d))));have aV:=κ (t5.blk η bv.o);have dy:=β0 aV.o;have dz:=β4 aV.o;clear ch t5)))
   obtain⟨q,cC⟩:=ν (decide (x.act=0/\cf=0));have ae:=κ cC;clear cC
   go_cut [57] from 42 to 95 (λv J=>v= μ q/\w5=J)
   case first=>
    by_cases h0:x.act=0
    ·by_cases h1:cf=0
     ·go_wp2;go_meet;exact⟨by rw[<-ae.o,decide_eq_true ⟨h0,h1⟩],rfl⟩
     ·go_wp2;go_meet;exact⟨by rw[<-ae.o];simp[h0,h1],rfl⟩
    ·go_wp2;go_meet;exact⟨by rw[<-ae.o,decide_eq_false (λh=>h0 h.1)],rfl⟩
   case rest=>
   obtain⟨rfl,rfl⟩:=hcut
   go_upto_if 57 with fail
   go_cut [7] from 42 to 95 (λv J=> ∃O:List (List Int),wv w1 J v O/\yE O s2/\O.length<=j+1/\RmR w1 J R s2 (Gi v))
   case first=>
    cases q
    ·have e:=κ (of_decide_eq_false ae.o);go_wp2;go_meet;refine⟨came,aX.o, ?_,Nat.le_succ_of_le aH.o,aD.o.sub (λb d=>List.mem_append.2 (Or.inr d))⟩;have h:=aF.o;rw[if_neg e.o] at h;exact h
    ·have e:=κ (of_decide_eq_true ae.o);obtain⟨dO,hi,dL,dM,dN⟩:=info_parts (P:=prog) (e:=34) (z:= δ none 0 0) (size:=1) (bytes:=24) ξ;obtain⟨xs,cJ,em,cB⟩:=(aX.o.on (qa.alloc w5 (.cells #[δ H x.b.length G] 34))).push bS.o aE.o;have bH:=κ cB;have dm:=κ cJ;have en:xs.length<=150:=by have:=aH.o;omega
     have dD:w1.heap.size<=(w5.alloc (.cells #[δ H x.b.length G] 34)).heap.size:=((aD.o.more).al _).size;clear cJ cB
     go_wp2_with (at_builtin;(refine jN (R:=Gn) (D:=noD) _ rfl (.tmp 58) (.tmp 61) 33 rfl w1.heap.size 34 dO (δ none 0 0) 1 24 underlying33 hi dL dM dN rfl ζ _ xs rfl dm.o w5.heap.size [δ H x.b.length G] (δ H x.b.length G) rfl rfl (zS η) (by simp[Value.oneCell']) (λw' _=>rfl) (λb h=>h.elim) ζ τ dD ?_;intro v' w8 cx cp d;have bF:=κ cx;have da:=κ (qg.of_grown cp);have cW:=κ d;clear cx cp d))
     go_meet;refine⟨came++[x.b],bH.o _ _ bF.o, ?_,by simp;exact aH.o,((aD.o.on (qa.alloc w5 (.cells #[δ H x.b.length G] 34))).grow (da.o.mono (λb d=>List.mem_append.2 (Or.inr (ownL_iff.2 d))))) (λb d=> ?_)⟩
     ·have h:=aF.o;rw[if_pos e.o] at h;exact h
     ·have bh:=ownL_iff.1 d;rcases cW.o with e2 | e2
      ·exact Or.inl (List.mem_append.2 (Or.inr (ownL_iff.2 (e2▸bh))))
      ·rw[bh] at e2;injection e2 with e2
       exact Or.inr ⟨τ,((bH.o _ _ bF.o).lt bh).2⟩
   case rest=>
   obtain⟨O,ag,U,ao,ap⟩:=hcut;obtain⟨dR,dC,rfl,_⟩:=ag.shape;have bz:=κ ag;have bB:=κ U;have bd:=κ ap;clear ag U ap dy dz ba bN bK aE bR bI bQ bv bJ aI aF bS aX aD aV ae aG M bM;obtain⟨Y,aa,n2,aj,ax,br,cm,cD,dJ,dI⟩:=Fr bB.o bc.o;rw[aY.o] at dI;have cY:=κ cm;have ej:O.length<=150:=by omega
   have dl:=κ (λ(w9:World) (h9:RmR w1 w9 R s2 (Gi (δ dR O.length dC)))=>Yn h9 (a:=(br:Int)) (b:=s2.held) (by rw[cD]) rfl);clear cm cD;have ep:(Y:Int)+(aa:Int)<=150:=by omega
   have eq:(Y:Int)+(aa:Int)+(n2:Int)<=150:=by omega
   have er:(Y:Int)+(aa:Int)+(n2:Int)+(aj:Int)<=150:=by omega
   have es:(Y:Int)+(aa:Int)+(n2:Int)+(aj:Int)+(ax:Int)<=150:=by omega
   have eu:(Y:Int)+(aa:Int)+(n2:Int)+(aj:Int)+(ax:Int)+(br:Int)<=150:=by omega
   have dP:decide ((O.length:Int)=(Y:Int)+(aa:Int)+(n2:Int)+(aj:Int)+(ax:Int)+(br:Int))=true:=decide_eq_true τ;clear dJ
   go_upto_region 15 with (first | (go_at_call 10;(go_call YI bd.o cY.o as e w9 ⟨rfl,ai⟩;have af:=κ ai;have aW:=κ (bd.o.on (ai.trans (qa.alloc w9 (.cells #[ι Y,ι aa,ι n2,ι aj,ι ax] 45))));have bu:=κ (qj w9 (.cells #[ι Y,ι aa,ι n2,ι aj,ι ax] 45));clear ai)) | (go_at_call 11;(go_call dl.o _ aW.o as e w10 ⟨rfl,aP⟩;have bw:=κ (aW.o.on aP);have ak:=κ (qc aP bu.o);have cS:=κ (bz.o.on (af.o.trans ((qa.alloc _ _).trans aP)));clear aP)))
   have ea:=β0 ak.o;have eb:=β1 ak.o;have ec:=β2 ak.o;have ed:=β3 ak.o;have ee:=β4 ak.o;have eE:=β0 (qc bw.o.more N.o);clear bu af aW bd bz;go_wp2
   all_goals (try (exact absurd (of_decide_eq_true dP) (by assumption)))
   go_roundw
   case rel=>exact⟨j+1,τ,by go_num,s2,O,bB.o,ao,aY.o,bw.o,bc.o,cS.o⟩
   case measure=>simp[intOf];omega
  ·obtain rfl:j=l.length:=by omega
   have dF: ¬(l.length:Int)<(l.length:Int):=by omega
   obtain⟨dQ,dB,rfl,cF⟩:=aG.o.shape;have dk:=κ cF;have cV:Hid (s.cnt=⟨s.cnt.lost,s.cnt.malf,s.cnt.strange,s.cnt.told,(s.pks.length:Int)⟩):=κ (by rw[<-ab.o.num.acc]);have el:s.pks.length<=150:=by have:=ab.o.num.pks;omega
   have ao:=aH.o;have ef:came.length<=150:=by omega
   have dc:=κ (yl.start bA.o);clear cF;have dG:l.length<=1000:=by omega
   have dX:=λa0 dw dx a3 a4 w=>Mk a0 dw dx a3 a4 w
   go_wp2_with ((go_at_call 10;(go_call YI M.o cV.o as e w9 ⟨rfl,ai⟩;have af:Hid (qa wr w9):=κ ai;clear ai)))
   go_loopw [15,99] (λu i J=> ∃a y:Nat,u= ι a/\i= ι y/\y<=s.pks.length/\a<=came.length/\yl came a (s.pks.drop y)/\qa w9 J) (λ_ i _=>s.pks.length-(intOf i).toNat)
   case atStart=>exact⟨0,0,rfl,rfl,τ,τ,dc.o,qa.refl _⟩
   case round=>
    obtain⟨a,y,rfl,rfl,eo,aM,cr,cv⟩:=hrel;have dd:=κ cr;have bg:=κ cv;clear cr cv;by_cases hlt:y<s.pks.length
    ·have dK:(y:Int)<(s.pks.length:Int):=by omega
     obtain⟨pa,aN⟩: ∃pa,s.pks[y]? =some pa:=⟨_,List.getElem?_eq_getElem hlt⟩;have ad:Hid (vZ came a false pa (s.pks.drop (y+1))):=κ (BV dd.o aN);have dg:=κ (vZ.num ad.o);have bG:=κ (ab.o.num.pkok pa (List.mem_of_getElem? aN));have dj:=κ (M.o.on (af.o.trans bg.o));have di:=κ (Ly dj.o ab.o dG aN);clear aN
     go_upto_region 23 with (go_at_call 12;(go_call di.o as e aR ⟨os,ay,aA,au,ke,aq,rfl,ah,cK⟩;have bV:=κ ah;have dn:=κ (bg.o.trans cK);clear ah cK))
     have bU:=κ (dn.o.trans (qa.alloc aR (.cells (Γi pa.o.1 pa.o.2 pa.num pa.pk os au ay ke aA aq) 57)));have aU:=κ (qj aR (.cells (Γi pa.o.1 pa.o.2 pa.num pa.pk os au ay ke aA aq) 57));have bW:=κ (bV.o.keep (qa.alloc aR (.cells (Γi pa.o.1 pa.o.2 pa.num pa.pk os au ay ke aA aq) 57)));have bZ:=κ (GS [ι pa.o.1,ι pa.o.2,ι pa.num] (Γh pa.pk os au ay ke aA aq) aU.o)
     go_upto_region 24 with (first | (refine wpList_load_mid rfl 55 (.tmp 110) rfl aR.heap.size 3 rfl (Γh pa.pk os au ay ke aA aq) _ bZ.o underlying55 rfl ξ ?_) | (go_at_call 13;(go_call Ai bW.o bG.o.1 bG.o.2.2 as e dU ⟨ev,dY,rfl,cP,bq⟩;have ds:=κ cP;have bf:=κ (bU.o.trans bq);have bt:=κ (qc bq aU.o);clear cP bq)))
     have c2:=β2 bt.o;have dA:=β5 bt.o;have dH:=dg.o;have ek:IntKind.wrap .u16 pa.num=pa.pk.sq:=by rw[<-dH];rfl
     clear aU bW bZ bV bU
     go_upto_region 27 with fail
     go_loopw [15,21] (λu f J=> ∃(a:Nat) (q:Bool),u= ι a/\f= μ q/\a<=came.length/\vZ came a q pa (s.pks.drop (y+1))/\qa dU J) (λu _ _=>came.length-(intOf u).toNat)
     case atStart=>exact⟨a,false,rfl,rfl,aM,ad.o,qa.refl _⟩
     case round=>
      obtain⟨a,q,rfl,rfl,aM,ct,cw⟩:=hrel;have ad:=κ ct;have an:=κ cw;clear ct cw c2 dA;cases q
      ·have cj:=vZ.some ad.o;have ci:(a:Int)<(came.length:Int):=by omega
       obtain⟨g,x,dE,bk,bj,aO,bi⟩:=dk.o a cj;subst dE;have be:=κ (vZ.step ad.o);obtain⟨I,ck⟩:=ν (came.getD a []);rw[ck] at aO bi be;have bx:=κ bi;obtain⟨cN,cd,rfl,_⟩:=id aO;have aL:=κ (af.o.trans (bf.o.trans an.o));have ce:wr.cell? ⟨g,a,none⟩=some (δ cN I.length cd):=by rw[aL.o.cells _ _ bk];exact bj
       have aI:=κ bj;have db:=κ bk;have cb:=κ (aO.keep (M.o.more.trans aL.o));have bb:=κ (Uw bx.o);have bL:=κ (Ig cb.o bx.o);have aJ:Hid (DD I pa=(decide ((jl I).2=0)&& !Zd I&&decide (pkB (jl I).1=pkB pa.pk))):=κ rfl;obtain⟨ac,bm⟩:=ν ((jl I).1);obtain⟨cO,cE⟩:=ν ((jl I).2);rw[bm] at bb;rw[bm,cE] at bL aJ;clear ck bm cE bk bj aO bi
       go_upto_region 29 with (go_at_call 14;(go_call bL.o as e aS ⟨eH,eF,eG,rfl,ah,cL⟩;obtain⟨⟨aC,av,rfl,_⟩,⟨az,ke2,rfl,_⟩,⟨aB,ar,rfl,_⟩⟩:=id ah;have bY:=κ ah;have dp:=κ cL;clear ah cL))
       have dq:=κ (dp.o.trans (qa.alloc aS (.cells (Γh ac aC av az ke2 aB ar) 55)));have bX:=κ (bY.o.keep (qa.alloc aS (.cells (Γh ac aC av az ke2 aB ar) 55)));have ca:=κ (GT (Γh ac aC av az ke2 aB ar) (qj aS (.cells (Γh ac aC av az ke2 aB ar) 55)));clear ce bY
       go_upto_region 30 with (first | (refine wpList_load_mid rfl 55 (.tmp 147) rfl aS.heap.size 0 rfl (Γh ac aC av az ke2 aB ar) _ ca.o underlying55 rfl ξ ?_) | (go_at_call 13;(go_call Ai bX.o bb.o.1 bb.o.2.2 as e aT ⟨ew,dZ,rfl,cQ,cM⟩;have dt:=κ cQ;have aK:=κ (dq.o.trans cM);clear cQ cM)))
       have ce:aT.cell? ⟨g,a,none⟩=some (δ cN I.length cd):=by rw[(aL.o.trans aK.o).cells _ _ db.o];exact aI.o
       have dv:=κ (cb.o.keep aK.o);have du:=κ (ds.o.keep (an.o.trans aK.o));have aZ:=κ (V3 _ I aT dv.o);have bP:=κ (Xp (pkB ac) (pkB pa.pk) _ _ aT dt.o du.o);obtain⟨cc,U⟩:=ν (Zd I);obtain⟨dT,cG⟩:=ν (decide (pkB ac=pkB pa.pk));rw[U] at aZ aJ;rw[cG] at bP aJ;rw[aJ.o] at be;clear U cG ca bX
       go_cut [21] from 130 to 167 (λv J=>v= μ (decide (cO=0)&& !cc&&dT)/\qa aT J)
       case first=>
        by_cases h0:cO=0
        ·subst h0;cases cc
         ·go_wp2_with (first | (go_at_call 15;(go_call aZ.o as e w33 ⟨rfl,rfl⟩)) | (go_at_call 16;(go_call bP.o as e eI ⟨rfl,et,rfl⟩)))
          go_meet;exact⟨η,(qa.refl _).dr _⟩
         ·go_wp2_with ((go_at_call 15;(go_call aZ.o as e w33 ⟨rfl,rfl⟩)))
          go_meet;exact⟨η,qa.refl _⟩
        ·go_wp2;go_meet;exact⟨by simp[h0],qa.refl _⟩
       case rest=>
       obtain⟨rfl,cu⟩:=hcut;have de:=κ cu;clear cu;go_wp2;go_roundw
       case rel=>exact⟨a+1,_,by go_num,rfl,τ,be.o,an.o.trans (aK.o.trans de.o)⟩
       case measure=>simp[intOf];omega
      ·have bE:Hid (yl came a (s.pks.drop (y+1))):=κ ad.o;by_cases cj:a<came.length
       ·have ci:(a:Int)<(came.length:Int):=by omega
        go_wp2;go_roundw
        case rel=>exact⟨a,y+1,rfl,by go_num,τ,aM,bE.o,bf.o.trans an.o⟩
        case measure=>simp[intOf];omega
       ·have ci: ¬(a:Int)<(came.length:Int):=by omega
        go_wp2;go_roundw
        case rel=>exact⟨a,y+1,rfl,by go_num,τ,aM,bE.o,bf.o.trans an.o⟩
        case measure=>simp[intOf];omega
    ·obtain rfl:y=s.pks.length:=by omega
     have dK: ¬(s.pks.length:Int)<(s.pks.length:Int):=by omega
     go_wp2;go_ret;exact⟨rfl,am.o.trans ((M.o.on (af.o.trans bg.o)).more)⟩
theorem XY (cs:Array Value) (c:CfR) (v:Value) (l:List A22) (w:World) (G:KL w cs.toList c) (d:SlP 14 uh w v l):
  Calls prog 3 #[θ cs,v] w λe w'=>e= .returned (μ true)/\qa w w':=by
 obtain rfl:cs= #[ι c.room,ι c.hold,ι c.wait,ι c.space,ι c.retry,ι c.most]:=Array.toList_inj.1 G;cases hc:xY c with
 | false=>
  obtain⟨H,cap,rfl,_⟩:=id d;exact XZ c _ _ _ w hc
 | true=>
  cases hl:yk l with
  | true=>exact QL c v l w hc d hl
  | false=>exact Js c v l w hc d hl
end
end Go.Proofs.YtdgippmmaponfaaGreat
