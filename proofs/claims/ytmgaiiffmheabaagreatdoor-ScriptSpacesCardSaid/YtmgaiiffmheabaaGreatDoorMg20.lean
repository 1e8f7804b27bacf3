/- x -/
import Derived.Test.YtmgaiiffmheabaaGreatDoorMg8
namespace Go.Proofs.YtmgaiiffmheabaaGreatDoor
open Option renaming some->ϊ,none->ϋ
open Bool renaming true->ό,false->ύ
open Go.Value renaming bool->μ,slice->δ,pointer->π,agg->θ
open Go.IntKind renaming i64->ι,u8->υ,u16->φ,u32->ω,i32->χ,u64->ψ
open _root_.Go.Proofs.Tryz
set_option linter.all false
set_option maxHeartbeats 8000000
set_option maxRecDepth 100000
open Go.RowKit Go.Lib
def TL (w:World):Calls prog 218 #[δ ϋ 0 0] w λe w'=>e= .returned (δ ϋ 0 0)/\w'=w:=by
 go_enter func218,ntmps218
 go_wp2
 go_loopw [3,10] (λv d wr=>v= δ ϋ 0 0/\d= ι 0/\wr=w) (λ_ _ _=>0)
 case atStart=>exact⟨rfl,rfl,rfl⟩
 case round=>
  obtain⟨rfl,rfl,rfl⟩:=hrel;go_wp2;go_ret;exact⟨rfl,rfl⟩
def An (d:Int) (w:World):Calls prog 215 #[θ #[ι 1,ω 0,ω d,(),()]] w λe w'=>e= .returned (μ ό)/\ql w w':=by
 go_enter func215,ntmps215
 go_wp2;go_ret;exact⟨rfl,ρ⟩
def Lm (w:World):Calls prog 214 #[Γd] w λe w'=>e= .returned (μ ό)/\ql w w':=by
 have d: ∀w:World,(binOp .eql 140 (θ #[ω 0,ω 0,ω 0,ω 0,ω 0]) (θ #[ω 0,ω 0,ω 0,ω 0,ω 0])).run prog w= .ok (μ ό) w:=λw=>by kernel_rfl
 go_enter func214,ntmps214
 go_wp2;go_ret;exact⟨rfl,ρ⟩
def Ln (w:World):Calls prog 212 #[θ #[υ 0,υ 0,()]] w λe w'=>e= .returned (μ ό)/\ql w w':=by
 go_enter func212,ntmps212
 go_wp2;go_ret;exact⟨rfl,ρ⟩
def qaj (w:World):Calls prog 219 #[ι 1] w λe w'=>e= .returned (.tuple #[υ 206,υ 1])/\w'=w:=by
 go_enter func219,ntmps219
 go_wp2
 go_ret2
 exact⟨rfl,rfl⟩
def gA (d:Int):(qy 0 4++qy d 4).length=8:=by rw[ώ,Hw,Hw]
def Lk (d:Int) (aq:0<=d/\d<=4294967295) (w:World):Calls prog 171 #[θ #[ι 1,ω 0,ω d,(),()]] w λe w'=> ∃ob cb,e= .returned (.tuple #[θ #[υ 1,υ 206,δ ob 8 cb],ι 0])/\SlI .u8 w' (δ ob 8 cb) (qy 0 4++qy d 4)/\ql w w'/\jX w (δ ob 8 cb):=by
 have ak:=κ (qs (qj w (.cells #[ι 1,ω 0,ω d,(),()] 137)) (.cells #[υ 0,υ 0,()] 145));have am:=κ (qC (w:=w.alloc (.cells #[ι 1,ω 0,ω d,(),()] 137)) (n:=w.heap.size+1) (o:=(.cells #[υ 0,υ 0,()] 145)) η);have ax:=κ aq;clear aq
 go_enter func171,ntmps171
 go_wp2_with (first | (go_at_call 215;(go_call An d _ as e aa ⟨rfl,U⟩;have I:=κ (qq U ak.o);have an:=κ (qq U am.o);have ao:=κ (((ql.alloc w (.cells #[ι 1,ω 0,ω d,(),()] 137)).al (.cells #[υ 0,υ 0,()] 145)).trans U);clear U;have af:=κ (wR aa);have ac:=κ (ql.alloc aa (.cells #[δ ϋ 0 0] 242));have az:=β1 (qq ac.o I.o))) | (go_at_call 113;((with_reducible refine(uw af.o 0 ζ η).mono ?_);rintro e w4 ⟨rfl,J⟩;have ad:=κ (J.to_more af.o ac.o (ϔ _));obtain⟨⟨v4,av,_⟩,_⟩:=J;have ag:=κ av;clear av az;have aA:=β2 (qq ad.o I.o))) | (go_at_call 113;((with_reducible refine(uw ag.o d ax.o (by simp only[ώ,Hw,Ϣ];omega)).mono ?_);rintro e w5 ⟨rfl,J⟩;have H:=κ (J.to_more ag.o ad.o (ϔ _));obtain⟨⟨v5,aw,_⟩,_⟩:=J;have ah:=κ aw;clear aw aA;have aN:=β3 (qq H.o I.o);have aO:=β4 (qq H.o I.o);have aM:=β0 (qq H.o I.o))))
 clear af ag ac ad ak am;have aE:Hid (w.heap.size+1<aa.heap.size):=κ (qn an.o);rw[I0] at ah;generalize aa.heap.size=W at *
 go_loopw [24] (λai wr=>ai= ι 0/\wr=w5) (λ_ _=>0)
 case atStart=>exact⟨rfl,rfl⟩
 case round=>
  obtain⟨rfl,rfl⟩:=hrel
  go_wp2_with (go_at_call 218;(go_call TL _ as e w6 ⟨rfl,rfl⟩))
  go_loopw [40] (λai aL=>ai= ι 0/\aL=w6) (λ_ _=>0)
  case atStart=>exact⟨rfl,rfl⟩
  case round=>
   obtain⟨rfl,rfl⟩:=hrel
   go_wp2_with (first | (go_at_call 219;(go_call qaj _ as e w7 ⟨rfl,rfl⟩)) | (go_at_call 115;(go_call wZ ah.o (by rw[gA];decide) as e ab ⟨v51,rfl,Y,aj⟩;rw[gA] at Y;have ae:=κ Y;have ay:=κ aj;have G:=κ (qq aj (qq H.o an.o));obtain⟨N,c5,rfl,-⟩:=GG Y;clear Y aj;have aP:=β0 G.o;have aQ:=β1 G.o;have aR:=β2 G.o;have aS:=yw G.o 0;have aT:=yw G.o 1;have aU:=yw G.o 2)))
   have O:=WC G.o (υ 1) (υ 206) (δ N 8 c5);have ar:=(((ao.o.trans H.o).trans ay.o)).st3 (w.heap.size+1) τ (υ 1) (υ 206) (δ N 8 c5);have a3:jt (λb=>b=w.heap.size+1) ab (((ab.setCell ⟨w.heap.size+1,0,ϋ⟩ (υ 1)).setCell ⟨w.heap.size+1,1,ϋ⟩ (υ 206)).setCell ⟨w.heap.size+1,2,ϋ⟩ (δ N 8 c5)):=
    (((jt.refl (λb=>b=w.heap.size+1) ab).set (p:=⟨w.heap.size+1,0,ϋ⟩) rfl _).set (p:=⟨w.heap.size+1,1,ϋ⟩) rfl _).set (p:=⟨w.heap.size+1,2,ϋ⟩) rfl _
   have au:=XC ae.o a3 (λb aF e=>by have aB:=jG ae.o aF;have aC:=H.o.size;have aD:=aE.o;have aV:=qn ah.o.blk;omega);obtain⟨WF,ap⟩:=ν ((((ab.setCell ⟨w.heap.size+1,0,ϋ⟩ (υ 1)).setCell ⟨w.heap.size+1,1,ϋ⟩ (υ 206)).setCell ⟨w.heap.size+1,2,ϋ⟩ (δ N 8 c5)));rw[ap] at O ar au ⊢;clear ap a3;have aI:=β0 O;have aJ:=β1 O;have aK:=β2 O
   (refine bodyPost_ret (v:= .tuple #[θ #[υ 1,υ 206,δ N 8 c5],ι 0]) ?rr1 rfl ?_;(case rr1=>(simp[results,results171,go_sem,aI,aJ,aK])))
   have aH:=SlI.of_owns (l:=qy 0 4++qy d 4) (by rw[gA];exact au) (by rw[gA];decide);exact⟨_,_,rfl,aH,ar,λg aG=>by have aB:=jG ae.o aG;have aC:=H.o.size;have aD:=ao.o.size;omega⟩
def FM (G:Int) (w:World):Calls prog 169 #[θ #[ι 2,ύ,ω 0,ω 0,ω 0,ω 0,ω 0,ω 0,(),ι 1,ω 0,ω G,(),(),υ 0,υ 0,()]] w λe w'=>e= .returned (μ ό)/\ql w w':=by
 go_enter func169,ntmps169
 go_wp2_with (first | (go_at_call 214;(go_call Lm _ as e w1 ⟨rfl,m⟩;have H:=κ ((ql.alloc w _).trans m);have d:=κ (qq m (qj w _));obtain⟨⟨O,U,ag,ah,ai,aj,ak,al,am⟩,⟨an,Y,aa,ab,ac⟩,ad,ae,af⟩:=JC d.o;clear m)) | (go_at_call 212;(go_call Ln _ as e w2 ⟨rfl,m⟩;have I:=κ (H.o.trans m);have N:=κ (qq m d.o);obtain⟨⟨O,U,ag,ah,ai,aj,ak,al,am⟩,⟨an,Y,aa,ab,ac⟩,ad,ae,af⟩:=JC N.o;clear m)) | (go_at_call 215;(go_call An G _ as e ao ⟨rfl,m⟩;have J:=κ (I.o.trans m);clear m)))
 go_ret;exact⟨rfl,J.o⟩
def CH (d:Int) (aj:0<=d/\d<=4294967295) (w:World):Calls prog 140 #[θ #[ι 2,ύ,ω 0,ω 0,ω 0,ω 0,ω 0,ω 0,(),ι 1,ω 0,ω d,(),(),υ 0,υ 0,()]] w λe w'=> ∃ob cb,e= .returned (.tuple #[θ #[υ 1,υ 206,δ ob 8 cb],ι 0])/\SlI .u8 w' (δ ob 8 cb) (qy 0 4++qy d 4)/\ql w w'/\jX w (δ ob 8 cb):=by
 obtain⟨W0,H⟩:=ν ((w.alloc (.cells #[ι 2,ύ,ω 0,ω 0,ω 0,ω 0,ω 0,ω 0,(),ι 1,ω 0,ω d,(),(),υ 0,υ 0,()] 147)).alloc (.cells #[υ 0,υ 0,()] 145));have af:Hid (ql w W0):=κ (by rw[<-H];exact X6.al _);have aa:Hid (W0.heap[w.heap.size]? =ϊ (.cells #[ι 2,ύ,ω 0,ω 0,ω 0,ω 0,ω 0,ω 0,(),ι 1,ω 0,ω d,(),(),υ 0,υ 0,()] 147)):=κ (by rw[<-H];exact qs (qj w _) _);have ae:Hid (W0.heap[w.heap.size+1]? =ϊ (.cells #[υ 0,υ 0,()] 145)):=κ (by rw[<-H];exact qC η)
 go_enter func140,ntmps140
 go_upto_region 1 with fail
 (try rw[H])
 clear H;obtain⟨⟨ak,am,aw,ax,ay,az,aA,aB,aC⟩,⟨aD,an,ao,ap,aq⟩,ar,au,av⟩:=JC aa.o
 go_wp2_with (first | (go_at_call 169;(go_call FM d _ as e w1 ⟨rfl,m⟩;have U:=κ (af.o.trans m);have ai:=κ (qq m aa.o);have O:=κ (qq m ae.o);obtain⟨⟨ak,am,aw,ax,ay,az,aA,aB,aC⟩,⟨aD,an,ao,ap,aq⟩,ar,au,av⟩:=JC ai.o;clear m)) | (go_at_call 171;(go_call Lk d aj _ as e w2 ⟨o2,c2,rfl,s2,N,n2⟩;have ah:=κ s2;have Y:=κ n2;have ag:=κ (U.o.trans N);have G:=κ (qq N O.o);have aH:=β0 G.o;have aI:=β1 G.o;have aJ:=β2 G.o;have aK:=yw G.o 0;have aL:=yw G.o 1;have aM:=yw G.o 2;clear s2 N n2)))
 have I:=WC G.o (υ 1) (υ 206) (δ o2 8 c2);have a3:jt (λb=>b=w.heap.size+1) w2 (((w2.setCell ⟨w.heap.size+1,0,ϋ⟩ (υ 1)).setCell ⟨w.heap.size+1,1,ϋ⟩ (υ 206)).setCell ⟨w.heap.size+1,2,ϋ⟩ (δ o2 8 c2)):=(((jt.refl (λb=>b=w.heap.size+1) w2).set (p:=⟨w.heap.size+1,0,ϋ⟩) rfl _).set (p:=⟨w.heap.size+1,1,ϋ⟩) rfl _).set (p:=⟨w.heap.size+1,2,ϋ⟩) rfl _;have ac:=jt.to_more ag.o a3 (λb e=>by omega);have ad:=ah.o.off2 (λ_ b J (e:b=w.heap.size+1)=>by have:=Y.o b J;have:=qn O.o;omega) a3;obtain⟨WF,ab⟩:=ν ((((w2.setCell ⟨w.heap.size+1,0,ϋ⟩ (υ 1)).setCell ⟨w.heap.size+1,1,ϋ⟩ (υ 206)).setCell ⟨w.heap.size+1,2,ϋ⟩ (δ o2 8 c2)));rw[ab] at I ac ad ⊢;clear ab a3;have aE:=β0 I;have aF:=β1 I;have aG:=β2 I
 (refine bodyPost_ret (v:= .tuple #[θ #[υ 1,υ 206,δ o2 8 c2],ι 0]) ?rr2 rfl ?_;(case rr2=>(simp[results,results140,go_sem,aE,aF,aG])))
 exact⟨_,_,rfl,ad,ac,λb J=>ϙ U.o.size (Y.o b J)⟩
def WN (n s:Int):Byt (qy n s):=by
 unfold qy;split
 ·exact JF _ _
 ·exact xh
def Ex (d:Int):xk (Zb d):=⟨⟨by show (0:Int)<=1;decide,by show (1:Int)<=255;decide⟩,⟨by show (0:Int)<=206;decide,by show (206:Int)<=255;decide⟩,zZ (WN 0 4) (WN d 4)⟩
def FN (d:Int) (aw:0<=d/\d<=4294967295) (b cap:Nat) (w:World) (aK:b<w.heap.size) (ah:w.rangeAt b 0 [ι 2,ύ,ω 0,ω 0,ω 0,ω 0,ω 0,ω 0,(),ι 1,ω 0,ω d,(),(),υ 0,υ 0,()]):Calls prog 116 #[δ (ϊ ⟨b,0,ϋ⟩) 1 cap] w λe w'=> ∃vx,e= .returned (.tuple #[vx,ι 0])/\SlP 3 yH w' vx [Zb d]/\ql w w':=by
 obtain⟨aC,hi,ax,ay,az⟩:=info_parts (P:=prog) (e:=145) (z:= θ #[υ 0,υ 0,()]) (size:=3) (bytes:=32) ξ;obtain⟨aD,aE,aF,aG,aH⟩:=info_parts (P:=prog) (e:=35) (z:= ι 0) (size:=1) (bytes:=8) ξ;have an:=κ ah;have ao:Hid (ChJ w w (δ ϋ 0 0) (δ ϋ 0 0) [] []):=κ ⟨je.nil _ _ _ _ _ _,World.ownsRow_nil _ _ _ _,ql.refl _⟩;clear ah
 go_enter func116,ntmps116
 go_wp2
 go_loopw [4,5,12] (λu v H wr=>(H= ι 0/\u= δ ϋ 0 0/\v= δ ϋ 0 0/\wr=w)∨(H= ι 1/\ ∃ad aa N ae ab O,u= δ ad aa N/\v= δ ae ab O/\ChJ w wr (δ ad aa N) (δ ae ab O) [Zb d] [0])) (λ_ _ H _=>1-(intOf H).toNat)
 case atStart=>exact ϑ ⟨rfl,rfl,rfl,rfl⟩
 case round=>
  rcases hrel with ⟨rfl,rfl,rfl,rfl⟩ | ⟨rfl,ad,aa,N,ae,ab,O,rfl,rfl,ag⟩
  ·go_wp2_with (first | (refine wpList_load_mid rfl 147 (.tmp 14) rfl b 0 rfl [ι 2,ύ,ω 0,ω 0,ω 0,ω 0,ω 0,ω 0,(),ι 1,ω 0,ω d,(),(),υ 0,υ 0,()] _ an.o underlying147 rfl ξ ?_) | (refine jU rfl 147 (.tmp 7) (.tmp 15) rfl wr _ #[ι 2,ύ,ω 0,ω 0,ω 0,ω 0,ω 0,ω 0,(),ι 1,ω 0,ω d,(),(),υ 0,υ 0,()] rfl rfl rfl ξ rfl rfl ?_) | (refine wpList_load_row rfl 147 (.tmp 7) rfl wr.heap.size rfl _ #[ι 2,ύ,ω 0,ω 0,ω 0,ω 0,ω 0,ω 0,(),ι 1,ω 0,ω d,(),(),υ 0,υ 0,()] _ _ (heap_alloc_new wr _) underlying147 rfl ξ ?_) | (go_at_call 140;(go_call CH d aw _ as e w1 ⟨ac,af,rfl,s1,am,n1⟩;have ar:=κ s1;have aq:=κ ((ql.alloc wr (.cells #[ι 2,ύ,ω 0,ω 0,ω 0,ω 0,ω 0,ω 0,(),ι 1,ω 0,ω d,(),(),υ 0,υ 0,()] 147)).trans am);have G:=κ ((ao.o.on aq.o).on ((ql.alloc w1 (.cells #[υ 1,υ 206,δ ac 8 af] 145)).al (.cells #[υ 1,υ 206,δ ac 8 af] 145)));clear s1 am n1)) | (at_builtin;refine jN _ rfl (.tmp 21) (.tmp 23) 247 rfl wr.heap.size 145 aC (θ #[υ 0,υ 0,()]) 3 32 underlying247 hi ax ay az rfl ζ _ [] rfl G.o.row (w1.heap.size+1) [υ 1,υ 206,δ ac 8 af] (Zb d) rfl rfl (zS η) X8 ((Dd (c:=Zb d) ar.o (Ex d) (λ_ g _ h=>by rcases h with h | h<;>cases h)).on (X6.al _)) (λb h=>gB G.o.errs h) ζ ζ G.o.more.size ?_;intro aO w8 U ai av;have J:=κ (G.o.put U ai);obtain⟨aM,aL,aI,rfl,aA,aB⟩:=U.shape;clear U ai av aA aB) | (at_builtin;refine qU _ rfl (.tmp 25) (.tmp 27) 284 rfl wr.heap.size 35 aD (ι 0) 8 underlying284 aE aF aG aH rfl _ .i64 [] rfl (J.o.on X6).errs _ [0] rfl (SlI.lit .i64 w8 [0] 35 _ 1 _ rfl rfl rfl η) η ζ (by have:=J.o.more.size;simp;omega) ?_;intro v9 w9 Y aj ak;have ap:=κ ((J.o.on X6).err (E':=[0]) Y aj ak);obtain⟨aN,aJ,au⟩:=xl Y;subst au;clear Y aj ak))
   go_roundw
   case rel=>exact ϕ ⟨by go_num,_,_,_,_,_,_,rfl,rfl,ap.o⟩
   case measure=>simp[intOf]
  ·have I:=κ ag;clear ag
   go_wp2_with (go_at_call 141;(go_call gh [0] _ _ (SlI.of_owns I.o.errs ζ) as e aP ⟨rfl,rfl⟩))
   go_ret2
   exact⟨_,rfl,I.o.row.sl ζ,I.o.more⟩
def Vs (d:Int):[Zb d].length<=100000/\ ∀i,i<[Zb d].length->([Zb d].getD i xu).2.2.1.length<=1000000:=by
 refine⟨η,λi hi=> ?_⟩;obtain rfl:i=0:=by simpa using hi
 show (qy 0 4++qy d 4).length<=1000000;rw[gA]
 decide
def FL (d:Int) (ac:0<=d/\d<=4294967295) {b t:Nat} (cap:Nat) (w:World) (H:w.heap[b]? =ϊ (.cells #[ι 2,ύ,ω 0,ω 0,ω 0,ω 0,ω 0,ω 0,(),ι 1,ω 0,ω d,(),(),υ 0,υ 0,()] t (0,0))):Calls prog 70 #[δ (ϊ ⟨b,0,ϋ⟩) 1 cap] w λe w'=> ∃G er,e= .returned (.tuple #[G,ι er])/\SlI .u8 w' G (ug d)/\ql w w'/\ ∀g,G.ownBlock=ϊ g->w.heap.size<=g:=by
 have O:=κ (FN d ac b cap w (qn H) (λj v ad=>by rw[G5];exact qa H j (by simpa using ad)));clear H
 go_enter func70,ntmps70
 go_wp2_with (first | (go_at_call 116;(go_call O.o as e w1 ⟨G,rfl,s1,J⟩;have aa:=κ s1;have I:=κ J;clear s1 J)) | (go_at_call 117;(go_call Dy G [Zb d] _ aa.o (Vs d).1 (Vs d).2 as e w2 ⟨ae,rfl,s2,N,n2⟩;have ab:=κ s2;have U:=κ (I.o.trans N);have Y:=κ (λ(b:Nat) (hb:ae.ownBlock=ϊ b)=>ϙ I.o.size (n2 b hb));clear s2 N n2)))
 go_ret2
 exact⟨_,_,rfl,ab.o,U.o,Y.o⟩
end Go.Proofs.YtmgaiiffmheabaaGreatDoor
