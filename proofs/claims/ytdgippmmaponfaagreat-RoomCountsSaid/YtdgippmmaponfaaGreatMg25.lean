/- Contracts of the functions that the law reaches, and plain laws; no conditions but those written at each. -/
import Derived.Test.YtdgippmmaponfaaGreatMg24
namespace Go.Proofs.YtdgippmmaponfaaGreat
open Go.Value renaming bool->μ,slice->δ,pointer->π,agg->θ
open Go.IntKind renaming i64->ι,u8->υ,u16->φ,u32->ω,i32->χ,u64->ψ
open _root_.Go.Proofs.Tryz
set_option linter.unusedSimpArgs false
set_option maxHeartbeats 8000000
set_option linter.unusedVariables false
open Go.RowKit
set_option maxRecDepth 100000
theorem ae1:aw0.publish 1 7 8 9=(aw1,0):=Prod.ext rfl aq1
theorem ae2:aw1.join 4 50 20 300=(aw2,0):=Prod.ext rfl aq2
theorem ae3:aw2.subscribe 4 1 0=(aw3,0):=Prod.ext rfl aq3
theorem ae4:aw3.tick=(aw4,0):=Prod.ext rfl aq4
theorem ae5:aw4.arrive pkY=(aw5,0):=Prod.ext rfl aq6.1
theorem ae6:aw5.arrive [1]=(aw6,0):=Prod.ext rfl aq6.2.1
theorem ae8:aw7.shut=(aw8,0):=Prod.ext rfl ξ
theorem ae9:aw8.tick=(aw8,7):=by kernel_rfl
theorem VY (s:RmS) (j:Nat) (h:j<5):awP s (j+1)=((awP s j).pick (wkA.getD j (0,0)) true).1:=by
 match j,h with
 | 0,_=>rfl
 | 1,_=>rfl
 | 2,_=>rfl
 | 3,_=>rfl
 | 4,_=>rfl
theorem VZ {s:RmS} {j:Nat} (h:j<5) (d:(awP s j).may (wkA.getD j (0,0))=true):(awP s j).pick ((wkA.getD j (0,0)).1,(wkA.getD j (0,0)).2) true=(awP s (j+1),true):=by
 refine Prod.ext (VY s j h).symm ?_;unfold RmS.pick;rw[if_pos d]
theorem ak4:qV 4 aw4:=(((uQ (c:=cfA) rfl).publish 1 7 8 9 ζ).join 4 50 20 300 |>.subscribe 4 1 0).tick
theorem ak3:qV 3 aw3:=((uQ (c:=cfA) rfl).publish 1 7 8 9 ζ).join 4 50 20 300 |>.subscribe 4 1 0
theorem ak2:qV 2 aw2:=((uQ (c:=cfA) rfl).publish 1 7 8 9 ζ).join 4 50 20 300
theorem ak6:qV 6 aw6:=(ak4.arrive (b:=pkY) (Byt.of_all ζ) ζ).arrive (b:=[1]) (Byt.of_all ζ) ζ
theorem akP {s:RmS} {n:Nat} (h:qV n s) (j:Nat) (d:j<=5):qV (n+j) (awP s j):=by
 induction j with
 | zero=>exact h
 | succ j ih=>
  rw[VY s j τ];exact(ih τ).pick _ _
theorem ak7:qV 11 aw7:=akP ak6 5 ζ
theorem ak8:qV 12 aw8:=ak7.shut
theorem ar8: ∀j<6,(awP aw8 j).ret.length<=1000000:=by decide+kernel
theorem Vj {w:World} {g:Nat} (h:w.heap[g]? =some (.cells #[ι 0,ι 0,ι 1,ι 0,ι 2,ι 4,ι 3,ι 4,ι 4,ι 4] 36 (0,0))) {j:Nat} (d:j<5):
  w.cell? ⟨g,j* 2,none⟩=some (ι (wkA.getD j (0,0)).1)/\w.cell? ⟨g,j* 2+1,none⟩=some (ι (wkA.getD j (0,0)).2):=by
 match j,d with
 | 0,_=>exact⟨qb h 0 rfl,qb h 1 rfl⟩
 | 1,_=>exact⟨qb h 2 rfl,qb h 3 rfl⟩
 | 2,_=>exact⟨qb h 4 rfl,qb h 5 rfl⟩
 | 3,_=>exact⟨qb h 6 rfl,qb h 7 rfl⟩
 | 4,_=>exact⟨qb h 8 rfl,qb h 9 rfl⟩
theorem No:uf pkW:=⟨ζ,ζ,ζ,ζ,λi=>by simp[U32,pkW],ζ,xh,Byt.of_all ζ⟩
theorem awR:jJ pkW=true:=by decide
theorem Nn (w:World):PkS (w.alloc (.cells #[υ 16,υ 2] 5)) (δ none 0 0) (δ none 0 0) (δ (some ⟨w.heap.size,0,none⟩) 2 2) pkW:=
 ⟨SlI.nil _ _,SlI.nil _ _,SlI.lit .u8 w [16,2] 5 _ 2 w.heap.size η rfl rfl η⟩
theorem Nf (w:World):Calls prog 7 #[θ #[ι 2,ι 2,ι 3,ι 1,ι 2,ι 1]] w λe w'=> ∃R,e= .returned (.tuple #[γ R,ι 0])/\RmR w w' R aw0 []/\qa w w':=JN cfA rfl w
theorem IV (w w1:World) (m:qa (w.alloc (.cells #[υ 16,υ 2] 5)) w1):Calls prog 13 #[θ #[μ false,υ 0,φ 5,ω 6,ω 7,(),false,φ 0,(),δ (some ⟨w.heap.size,0,none⟩) 2 2]] w1 λe w'=>(∃v,e= .returned (.tuple #[v,ι 0])/\SlI .u8 w' v pkY)/\qa w1 w':=
 (gi pkW _ _ _ _ ((Nn w).keep m) No awR).mono λe w' ⟨⟨v,G,d⟩,H⟩=>⟨⟨v,G,by rw[awB] at d;exact SlI.of_owns d ζ⟩,H⟩
theorem Px (a b c x y z:Int) (w:World):(binOp .eql 72 (θ #[ι a,ι b,ι c]) (θ #[ι x,ι y,ι z])).run prog w= .ok (μ (decide ([a,b,c]=[x,y,z]))) w:=by
 obtain⟨i,hi⟩: ∃i,prog.info? 3=some i:=⟨_,rfl⟩;exact Fz (la:=[a,b,c]) (lb:=[x,y,z]) underlying72 hi ξ underlying3 isAgg3 rfl rfl w
theorem Bz (x y:Int) (w:World):(binOp .neq 50 (θ #[ι x,ι y]) (θ #[ι x,ι y])).run prog w= .ok (μ false) w:=by
 have d:prog.stoodInHeld 50=false:=by kernel_rfl
 rw[run_neq_struct,show (10000:Nat)=9999+1 from rfl,run_equalIn_agg w 9999 50 _ _ ξ d];simp[go_sem]
theorem UK:prog.eqGuardType prog.depth 50=false:=by kernel_rfl
theorem Cn (a b c d e:Int) (w:World):(binOp .eql 45 (θ #[ι a,ι b,ι c,ι d,ι e]) (θ #[ι a,ι b,ι c,ι d,ι e])).run prog w= .ok (μ true) w:=by
 have G:prog.stoodInHeld 45=false:=by kernel_rfl
 rw[run_eql_struct,show (10000:Nat)=9999+1 from rfl,run_equalIn_agg w 9999 45 _ _ ξ G];simp[go_sem]
theorem UZ:prog.eqGuardType prog.depth 45=false:=by kernel_rfl
section
variable {w0 w:World} {R:Nat} {F:List Nat}
theorem Mo (h:RmR w0 w R aw4 F) (v:Value) (d:SlI .u8 w v pkY):Calls prog 28 #[γ R,v] w λe w'=>e= .returned (ι 0)/\RmR w0 w' R aw5 F/\qw F w w':=LC h pkY v d (Byt.of_all ζ) ζ (by decide+kernel) ae5
theorem Mn (h:RmR w0 w R aw5 F) (v:Value) (d:SlI .u8 w v [1]):Calls prog 28 #[γ R,v] w λe w'=>e= .returned (ι 0)/\RmR w0 w' R aw6 F/\qw F w w':=LC h [1] v d (Byt.of_all ζ) ζ (by decide+kernel) ae6
theorem Ic (h:RmR w0 w R aw6 F):Calls prog 11 #[γ R] w λe w'=>e= .returned (.tuple #[ι 2,ι 0])/\qa w w':=Yn h (by rw[aq6.2.2.1];rfl) (by rw[aq6.2.2.2];rfl)
theorem Md (h:RmR w0 w R aw7 F):Calls prog 20 #[γ R,ι 4] w λe w'=>
  e= .returned (.tuple #[θ #[ι 0,ι 0],θ #[ι 0,ι 0,ι 0],false,true])/\qa w w':=
 by
 refine(Ha h 4 rfl rfl).mono λe w' d=>⟨d.1.trans ?_,d.2⟩
 kernel_rfl
theorem Fs (h:RmR w0 w R aw9 F):Calls prog 10 #[γ R] w λe w'=>e= .returned (θ #[ι 1,ι 0,ι 0,ι 0,ι 1])/\qa w w':=YI h aq10.2.2
theorem Nd (h:RmR w0 w R aw7 F):
  Calls prog 12 #[γ R,ι 0] w λe w'=> ∃os oe ol ks ke kl,e= .returned (.tuple #[θ #[ι 1,ι 0,ι 65541,false,υ 0,φ 5,ω 6,ω 7,δ os 0 ks,false,φ 0,δ oe 0 ke,δ ol 2 kl],true])/\qa w w':=
 (Ly h ak7 ζ (i:=0) (a:=⟨(1,0),65541,pkW⟩) ξ).mono λe w' ⟨a,b,c,d,f,g,G,_,H⟩=>⟨a,b,c,d,f,g,G,H⟩
theorem Ml (h:RmR w0 w R aw7 F): ∃B,w.cell? ⟨R,0,none⟩=some (π (some ⟨B,0,none⟩))/\Calls prog 31 #[θ #[γ B],ι 4,ι 0] w λe w'=>e= .returned (.tuple #[ι 1,true])/\qa w w':=by
 obtain⟨B,b,d,G⟩:=h.bk;refine⟨B,d,(Ht G 4 0).mono λe w' ⟨H,I⟩=>⟨?_,I⟩⟩;rw[H,aq8];rfl
theorem MP (h:RmR w0 w R aw7 F):Calls prog 32 #[γ R,ι 4] w λe w'=> ∃g cap b H d,e= .returned (δ (some ⟨g,0,none⟩) 1 cap)/\w'.cell? ⟨g,1,none⟩=some (δ (some ⟨b,H,none⟩) 14 d)/\SlI .u8 w' (δ (some ⟨b,H,none⟩) 14 d) [128,0,0,20,0,0,1,44,0,0,0,50,16,2]/\RmR w0 w' R aw7 ([g,b]++F)/\qa w w':=by
 refine(MO h 4 (by rw[aq9];decide)).mono ?_;rintro e w' ⟨⟨v,rfl,G⟩,m⟩;rw[aq9] at G;have ad:=G.sl ζ;obtain⟨ah,cap,rfl,_,Y,_⟩:=ad;obtain⟨g,H,cs,rfl,aa,af,U,v,rfl,I,_,_,ab,_⟩:=Y 0 ζ;obtain⟨⟨xs,⟨_,ac⟩,_⟩,_⟩:=id G;rcases ac with ⟨e,_⟩ | ⟨g',ae,cur,e,N,_⟩
 ·cases e
 ·injection e with e1 _ _
  injection e1 with e1
  injection e1 with e1 e2 _
  subst e1 e2;obtain⟨ai,d,rfl,_⟩:=id I;obtain⟨b,M,rfl,O,ag⟩:=I.addr ζ;exact⟨g,cap,b,M,d,rfl,U 1 ζ,I,h.adds (Fn:=[g,b]) m (λx J=>by simp at J;rcases J with rfl | rfl;exact⟨N,aa⟩;exact⟨ab _ rfl,O⟩),m⟩
end
theorem yM (w:World):Calls prog 6 #[] w λe w'=>e= .returned (μ true)/\qa w w':=by
 go_enter func6,ntmps6
 go_upto_region 7 with (first | (go_at_call 7;(go_call Nf w as e w1 ⟨R,rfl,aB,df⟩;have cv:=κ aB;clear aB df)) | (go_at_call 23;(go_call MU cv.o rfl 1 7 8 9 ae1 as e w2 ⟨rfl,bJ,_⟩;have ak:=κ bJ;clear bJ)) | (go_at_call 24;(go_call Me ak.o rfl 4 50 20 300 ⟨ζ,ζ⟩ ⟨ζ,ζ⟩ ae2 as e cj ⟨rfl,ab,_⟩;have am:=κ ab;clear ab)) | (go_at_call 25;(go_call LQ am.o ak2 ζ 4 1 0 ae3 as e w4 ⟨rfl,bM,_⟩;have cB:=κ bM;clear bM)) | (go_at_call 26;(go_call F5 cB.o ak3 ζ ae4 as e w5 ⟨rfl,bN,_⟩;have bu:=κ bN;clear bN)) | (go_at_call 27;(go_call MT bu.o aq5 ζ as e w6 ⟨g,dl,ds,aV,rfl,bQ,bR,bT,bl,bS,bZ⟩;obtain⟨G,aR,rfl,bP,cZ⟩:=bl.addr ζ;have bv:=κ (bu.o.adds (Fn:=[g,G]) bZ (λb d=>by simp at d;rcases d with rfl | rfl;exact⟨bQ,bR⟩;exact⟨bS _ rfl,bP⟩));have ai:=κ bT;have S6:=κ bl;clear bQ bR bT bl bS bP cZ bZ)))
 go_wp2_with (first | (go_at_call 13;(go_call IV w6 _ (qa.refl _) as e dy ⟨⟨v7,rfl,cb⟩,ca⟩;have bg:=(qa.alloc w6 (.cells #[υ 16,υ 2] 5)).trans ca;have cC:=κ (bv.o.on bg);have cO:=κ (bv.o.stay bg);have cV:=κ cb;clear cb ca bg)) | (go_at_call 28;((with_reducible refine(Mo cC.o v7 cV.o).mono ?_);rintro e w8 ⟨rfl,aT,cf⟩;have bh:=qa.alloc w8 (.cells #[υ 1] 5);have cD:=κ (aT.on bh);have cW:=κ (SlI.lit .u8 w8 [1] 5 #[υ 1] 1 w8.heap.size rfl rfl rfl η);have cP:=κ (cO.o.trans (cf.trans (aT.stay bh)));clear aT cf bh)) | (go_at_call 28;((with_reducible refine(Mn cD.o _ cW.o).mono ?_);rintro e w9 ⟨rfl,bO,t9⟩;have aG:=κ bO;have cQ:=κ (cP.o.trans t9);clear bO t9)) | (go_at_call 11;(go_call Ic aG.o as e w10 ⟨rfl,aZ⟩;have bo:=κ (aG.o.on aZ);have cJ:=κ (cQ.o.trans (aG.o.stay aZ));clear aZ)) | (go_at_call 29;(go_call WO 4 w10 as e cg ⟨rfl,aP,ba⟩;have cw:Hid (RmR w cg R aw6 ([w10.heap.size,g,G]++[])):=κ (bo.o.adds (Fn:=[w10.heap.size]) ba (λb d=>(by simp at d;subst d;exact⟨Nat.le_refl _,qn aP⟩)));have cK:=κ (cJ.o.trans (bo.o.stay ba));have ck:=κ aP;clear aP ba)))
 generalize w10.heap.size=J at *
 go_loopw [72] (λi wr=> ∃j:Nat,j<=5/\i= ι j/\RmR w wr R (awP aw6 j) [J,g,G]/\qw [J,g,G] cg wr) (λi _=>5-(intOf i).toNat)
 case atStart=>exact⟨0,τ,rfl,cw.o,qw.refl _ _⟩
 case round=>
  obtain⟨j,da,rfl,ar,au⟩:=hrel;have U:=κ ar;have Y:=κ au;clear ar au;by_cases hlt:j<5
  ·have aU:(j:Int)<5:=by omega
   obtain⟨aS,c1⟩:=Vj (Y.o.blk η ck.o) hlt;have an:=κ (aq7 j hlt);have ao:=κ (VZ hlt (aq7 j hlt));have ax:=κ (akP ak6 j τ);have aw:Hid (6+j<=1000):=κ τ;generalize wkA.getD j (0,0)=y at *;obtain⟨ac,ad⟩:=y;simp only at aS c1 an ao;have ae:=κ (U.o.on (qa.alloc wr (.cells #[ι ac,ι ad] 36)));have ah:=κ (qj wr (.cells #[ι ac,ι ad] 36));have aN:=κ (Y.o.trans (U.o.stay (qa.alloc wr (.cells #[ι ac,ι ad] 36))))
   go_wp2_with (first | (go_at_call 17;(go_call Hv ae.o ax.o aw.o _ _ an.o as e w2 ⟨rfl,N⟩;have ak:=κ (ae.o.on N);have aL:=κ (aN.o.trans (ae.o.stay N));have cX:=β0 (qc N ah.o);have cY:=β1 (qc N ah.o);clear N)) | (go_at_call 30;(go_call F7 ak.o ax.o aw.o _ _ true ao.o as e cj ⟨rfl,ab,t3⟩;have am:=κ ab;have aM:=κ (aL.o.trans t3);clear ab t3)))
   go_roundw
   case rel=>exact⟨j+1,τ,by go_num,am.o,aM.o⟩
   case measure=>simp[intOf];omega
  ·obtain rfl:j=5:=by omega
   have aU: ¬((5:Nat):Int)<5:=by omega
   have aE:Hid (RmR w wr R aw7 [J,g,G]):=κ U.o;have bz:Hid (qw [g,G] w6 wr):=κ (cK.o.trans (Y.o.sub η));obtain⟨B,dk,hF⟩:=Ml aE.o;have cE:=κ hF;clear hF U Y
   go_upto_region 19 with (first | (go_at_call 31;(go_call cE.o as e dt ⟨rfl,bb⟩;have bp:=κ (aE.o.on bb);have bA:=κ (bz.o.trans ((aE.o.stay bb).sub η));clear bb)) | (go_at_call 32;(go_call MP bp.o as e ch ⟨I,dm,H,bk,aY,rfl,bF,cc,bI,bU⟩;have av:=κ bI;have bm:=κ bF;have bx:=κ cc;have bB:=κ (bA.o.trans ((bp.o.stay bU).sub η));clear bI bF cc bU)) | (go_at_call 20;(go_call Md av.o as e O ⟨rfl,aC⟩;have aF:=κ (av.o.on aC);have bC:=κ (bB.o.trans ((av.o.stay aC).sub η));have bn:=κ ((av.o.stay aC).sub (F':=[I,H]) η);clear aC)))
   have M:=(qa.alloc O (.cells #[ι 0,ι 0] 71)).al (.cells #[ι 0,ι 0,ι 0] 72);have ay:=qs (qj O (.cells #[ι 0,ι 0] 71)) (.cells #[ι 0,ι 0,ι 0] 72);have ap:((O.alloc (.cells #[ι 0,ι 0] 71)).alloc (.cells #[ι 0,ι 0,ι 0] 72)).heap[O.heap.size+1]? =some (.cells #[ι 0,ι 0,ι 0] 72 (0,0)):=qC η;generalize (O.alloc (.cells #[ι 0,ι 0] 71)).alloc (.cells #[ι 0,ι 0,ι 0] 72)=W18 at *;have aB:=qn ap;have aj:Hid (RmR w W18 R aw7 [O.heap.size,O.heap.size+1,I,H,J,g,G]):=κ (aF.o.adds (Fn:=[O.heap.size,O.heap.size+1]) M (λb d=>by simp at d;omega));have bD:Hid (qw [g,G] w6 W18):=κ (bC.o.trans ((aF.o.stay M).sub η));have bE:Hid (qw [I,H] ch W18):=κ (bn.o.trans ((aF.o.stay M).sub η));have ay:=κ ay;have ap:=κ ap;clear aB M bC bn bB bA bz;generalize O.heap.size+1=l1 at *;generalize O.heap.size=l0 at *
   go_upto_region 20 with ((go_at_call 12;(go_call Nd aj.o as e af ⟨os,bi,bj,aX,ke,aW,rfl,bV⟩;have aK:=κ bV;clear bV)))
   have M:=aK.o.trans (qa.alloc af (.cells #[ι 1,ι 0,ι 65541,false,υ 0,φ 5,ω 6,ω 7,δ os 0 aX,false,φ 0,δ bi 0 ke,δ bj 2 aW] 57));have az:=qj af (.cells #[ι 1,ι 0,ι 65541,false,υ 0,φ 5,ω 6,ω 7,δ os 0 aX,false,φ 0,δ bi 0 ke,δ bj 2 aW] 57);generalize af.alloc (.cells #[ι 1,ι 0,ι 65541,false,υ 0,φ 5,ω 6,ω 7,δ os 0 aX,false,φ 0,δ bi 0 ke,δ bj 2 aW] 57)=W19 at *;have db:=qn az;have dc:W18.heap.size<=af.heap.size:=aK.o.size;have cx:Hid (RmR w W19 R aw7 ([af.heap.size]++[l0,l1,I,H,J,g,G])):=κ (aj.o.adds (Fn:=[af.heap.size]) M (λb d=>(by simp at d;omega)));have ag:Hid (qw [g,G] w6 W19):=κ (bD.o.trans ((aj.o.stay M).sub η));have aO:Hid (qw [I,H] ch W19):=κ (bE.o.trans ((aj.o.stay M).sub η));have cF:=κ (qc M ay.o);have aJ:=κ (qc M ap.o);have az:=κ az;have cn:Hid (W19.cell? ⟨g,0,none⟩=some (ι 1)):=κ (by rw[ag.o.cell η];exact ai.o 0 _ rfl);have co:Hid (W19.cell? ⟨g,1,none⟩=some (ι 0)):=κ (by rw[ag.o.cell η];exact ai.o 1 _ rfl);have cp:Hid (W19.cell? ⟨g,2,none⟩=some (ι 1)):=κ (by rw[ag.o.cell η];exact ai.o 2 _ rfl);have cq:Hid (W19.cell? ⟨g,3,none⟩=some (δ (some ⟨G,aR,none⟩) 12 aV)):=κ (by rw[ag.o.cell η];exact ai.o 3 _ rfl);have cr:Hid (SlI .u8 W19 (δ (some ⟨G,aR,none⟩) 12 aV) [129,206,0,2,0,0,0,0,0,0,0,7]):=κ (S6.o.stays ag.o (λb d=>by injection d with d;subst d;simp));have ct:Hid (W19.cell? ⟨I,1,none⟩=some (δ (some ⟨H,bk,none⟩) 14 aY)):=κ (by rw[aO.o.cell η];exact bm.o);have cu:Hid (SlI .u8 W19 (δ (some ⟨H,bk,none⟩) 14 aY) [128,0,0,20,0,0,1,44,0,0,0,50,16,2]):=κ (bx.o.stays aO.o (λb d=>by injection d with d;subst d;simp));clear M db dc ag aO bD bE ai S6 bm bx ay ap aK aj;generalize af.heap.size=x0 at *
   go_wp2_with (first | (go_at_call 33;(go_call LS cx.o ae8 as e du ⟨rfl,bK,cd⟩;have cy:=κ bK;have cL:=κ cd;clear bK cd)) | (go_at_call 26;(go_call F5 cy.o ak8 ζ ae9 as e aD ⟨rfl,bL,ce⟩;have bq:=κ bL;have cM:=κ (cL.o.trans ce);clear bL ce)) | (go_at_call 29;(go_call WO 4 aD as e ci ⟨rfl,aQ,bc⟩;have cz:Hid (RmR w ci R aw8 ([aD.heap.size]++[x0,l0,l1,I,H,J,g,G])):=κ (bq.o.adds (Fn:=[aD.heap.size]) bc (λb d=>(by simp at d;subst d;exact⟨Nat.le_refl _,qn aQ⟩)));have cN:=κ (cM.o.trans (bq.o.stay bc));have cl:=κ aQ;clear aQ bc)))
   generalize aD.heap.size=aA at *
   go_loopw [115] (λi wr=> ∃j:Nat,j<=5/\i= ι j/\RmR w wr R (awP aw8 j) [aA,x0,l0,l1,I,H,J,g,G]/\qw [aA,x0,l0,l1,I,H,J,g,G] ci wr) (λi _=>5-(intOf i).toNat)
   case atStart=>exact⟨0,τ,rfl,cz.o,qw.refl _ _⟩
   case round=>
    obtain⟨j,da,rfl,ar,au⟩:=hrel;have U:=κ ar;have Y:=κ au;clear ar au;by_cases hlt:j<5
    ·have aU:(j:Int)<5:=by omega
     obtain⟨aS,c1⟩:=Vj (Y.o.blk η cl.o) hlt;have an:=κ (LD j hlt).2;have ao:=κ (VZ hlt (LD j hlt).1);have ax:=κ (akP ak8 j τ);have aH:=κ (ar8 j τ);have aw:Hid (12+j<=1000):=κ τ;generalize wkA.getD j (0,0)=y at *;obtain⟨ac,ad⟩:=y;simp only at aS c1 an ao;have ae:=κ (U.o.on (qa.alloc wr (.cells #[ι ac,ι ad] 36)));have ah:=κ (qj wr (.cells #[ι ac,ι ad] 36));have aN:=κ (Y.o.trans (U.o.stay (qa.alloc wr (.cells #[ι ac,ι ad] 36))))
     go_wp2_with (first | (go_at_call 19;(go_call KY ae.o aH.o an.o as e w2 ⟨rfl,N⟩;have ak:=κ (ae.o.on N);have aL:=κ (aN.o.trans (ae.o.stay N));have cX:=β0 (qc N ah.o);have cY:=β1 (qc N ah.o);clear N)) | (go_at_call 30;(go_call F7 ak.o ax.o aw.o _ _ true ao.o as e cj ⟨rfl,ab,t3⟩;have am:=κ ab;have aM:=κ (aL.o.trans t3);clear ab t3)))
     go_roundw
     case rel=>exact⟨j+1,τ,by go_num,am.o,aM.o⟩
     case measure=>simp[intOf];omega
    ·obtain rfl:j=5:=by omega
     have aU: ¬((5:Nat):Int)<5:=by omega
     have aI:Hid (RmR w wr R aw9 [aA,x0,l0,l1,I,H,J,g,G]):=κ U.o;have aa:Hid (qw [x0,l0,l1,I,H,J,g,G] W19 wr):=κ (cN.o.trans (Y.o.sub η));have dn:wr.cell? ⟨g,0,none⟩=some (ι 1):=by rw[aa.o.cell η];exact cn.o
     have dp:wr.cell? ⟨g,1,none⟩=some (ι 0):=by rw[aa.o.cell η];exact co.o
     have J:wr.cell? ⟨g,2,none⟩=some (ι 1):=by rw[aa.o.cell η];exact cp.o
     have aA:wr.cell? ⟨g,3,none⟩=some (δ (some ⟨G,aR,none⟩) 12 aV):=by rw[aa.o.cell η];exact cq.o
     have cH:=κ (cr.o.stays aa.o (λb d=>by injection d with d;subst d;simp));have cI:=κ (cu.o.stays aa.o (λb d=>by injection d with d;subst d;simp));have dj:=λw=>Bz 1 0 w
     have dh:=UK;have bw:=κ (qa.alloc wr (.cells #[υ 129,υ 206,υ 0,υ 2,υ 0,υ 0,υ 0,υ 0,υ 0,υ 0,υ 0,υ 7] 5));have cT:=κ (SlI.lit .u8 wr [129,206,0,2,0,0,0,0,0,0,0,7] 5 #[υ 129,υ 206,υ 0,υ 2,υ 0,υ 0,υ 0,υ 0,υ 0,υ 0,υ 0,υ 7] 12 wr.heap.size rfl rfl rfl η);have cR:=κ (cH.o.keep bw.o);have di:=UZ;have dg:=λw=>Cn 1 0 0 0 1 w
     have cm:=λw=>Px 0 0 0 0 0 0 w
     rw[show decide ([(0:Int),0,0]=[0,0,0])=true from rfl] at cm;have aH:Hid (aw9.ret.length<=1000000):=κ (ar8 5 ζ)
     go_wp2_with (first | (go_at_call 16;((with_reducible refine(Xp _ _ _ _ _ cR.o cT.o).mono ?_);rintro e w31 ⟨rfl,dd,bG⟩;have bd:qa wr w31:=(by rw[bG];exact bw.o.dr dd);have be:=bd.trans (qa.alloc w31 (.cells #[υ 128,υ 0,υ 0,υ 20,υ 0,υ 0,υ 1,υ 44,υ 0,υ 0,υ 0,υ 50,υ 16,υ 2] 5));have dq:w31.cell? ⟨I,1,none⟩=some (δ (some ⟨H,bk,none⟩) 14 aY):=(by rw[(aa.o.trans ((aI.o.stay bd).sub η)).cell η];exact ct.o);have cS:=κ (cI.o.keep be);have cU:=κ (SlI.lit .u8 w31 [128,0,0,20,0,0,1,44,0,0,0,50,16,2] 5 #[υ 128,υ 0,υ 0,υ 20,υ 0,υ 0,υ 1,υ 44,υ 0,υ 0,υ 0,υ 50,υ 16,υ 2] 14 w31.heap.size rfl rfl rfl η);have cG:=κ be;clear bd be bG)) | (go_at_call 16;((with_reducible refine(Xp _ _ _ _ _ cS.o cU.o).mono ?_);rintro e w33 ⟨rfl,de,bH⟩;have bf:qa wr w33:=(by rw[bH];exact cG.o.dr de);have br:=κ (aI.o.on bf);have aq:=κ (aa.o.trans ((aI.o.stay bf).sub η));have dz:w33.cell? ⟨l0,0,none⟩=some (ι 0):=qb (aq.o.blk η cF.o) 0 rfl;have ac:w33.cell? ⟨l1,0,none⟩=some (ι 0):=qb (aq.o.blk η aJ.o) 0 rfl;have ad:w33.cell? ⟨l1,1,none⟩=some (ι 0):=qb (aq.o.blk η aJ.o) 1 rfl;have dA:w33.cell? ⟨l1,2,none⟩=some (ι 0):=qb (aq.o.blk η aJ.o) 2 rfl;have dB:w33.cell? ⟨x0,2,none⟩=some (ι 65541):=qb (aq.o.blk η az.o) 2 rfl;clear bf bH)) | (go_at_call 19;(go_call KY br.o aH.o aq10.1 as e dv ⟨rfl,bW⟩;have bs:=κ (br.o.on bW);clear bW)) | (go_at_call 34;(go_call IT bs.o aq10.2.1 as e dw ⟨rfl,bX⟩;have bt:=κ (bs.o.on bX);clear bX)) | (go_at_call 10;(go_call Fs bt.o as e dx ⟨rfl,bY⟩;have cA:=κ (bt.o.on bY);clear bY)))
     go_ret;exact⟨rfl,cA.o.more⟩
theorem Da (m:Bk) (sub:Int):zL sub 0 m=((jz m sub).length:Int):=by
 unfold jz;rw[vI];unfold zL xS;rw[List.countP_eq_length_filter]
 induction m with
 | nil=>rfl
 | cons p l ih=>
  by_cases e:p.1.1=sub/\p.2=0
  ·simp only[List.filter_cons,List.filterMap_cons];simp[e] at ih ⊢;exact ih
  ·have d: ¬(p.1.1=sub/\p.2=((0:Nat):Int)):=by simpa using e
   simp only[List.filter_cons,List.filterMap_cons,decide_eq_true_eq,if_neg e,if_neg d];exact ih
theorem Iw (s:RmS) (x:Int):s.inL x=(s.ln x).A.length+(s.ln x).B.length+(s.ln x).C.length:=by
 unfold RmS.inL RmS.ln;cases qh s.lanes x<;>rfl
theorem IA {n:Nat} {s:RmS} (h:qV n s) (N:(s.book.map Prod.fst).Nodup) (x:Int):
  (s.ln x).A.length+(s.ln x).B.length+(s.ln x).C.length<=(jz s.book x).length/\(jz s.book x).length<=(s.ln x).A.length+(s.ln x).B.length+(s.ln x).C.length+s.held/\((s.ln x).gone=true->(jz s.book x).length=0)/\((qh s.lanes x).isSome=false->(jz s.book x).length=0):=by
 obtain⟨H,I,J⟩:=ZV h.ow N x;rw[Iw] at H I;refine⟨H,I,λd=>J λl G=> ?_,λM=>J λl G=> ?_⟩
 ·unfold RmS.ln at d;rw[G] at d;exact d
 ·rw[G] at M;cases M
theorem Ez (m:Bk) (x:Int):(jz m x).length<=m.length:=by
 unfold jz;rw[vI];unfold xS;exact List.length_filterMap_le _ _
section
variable {w0 w w':World} {R:Nat} {s s':RmS} {F F' Fn:List Nat} {n:Nat}
theorem RmR.held (h:RmR w0 w R s F):s.held<=72:=by
 obtain⟨k,rfl,T,vp,H,h⟩:=h;have d:=Yu (D8 h) s.origins;have G:=uC s;have e:s.held=(s.origins.map (lfN s)).sum:=rfl;omega
theorem HV (h:RmR w0 w R s F) (O:qV n s) (Y:n<=1000) (a:A22) (G:Option Addr) (d:Nat) (ac:SlI .u8 w (δ G a.b.length d) a.b) (N:Byt a.b) (U:a.b.length<=400) (ab:U16 a.seq) (aa:U32 a.own):
  Calls prog 9 #[γ R,θ #[ι a.act,ι a.sub,ι a.pub,ι a.layer,δ G a.b.length d,ι a.w.1,ι a.w.2,a.acc,ω a.own,ω a.stamp,φ a.seq,ω a.s0,ω a.s1,ω a.s2]] w λe w'=>
   e= .returned (.tuple #[ι (doR s a).2.1,μ (doR s a).2.2])/\RmR w0 w' R (doR s a).1 F/\qw F w w':=by
 obtain⟨k,rfl,h⟩:=h;exact(RDo h O Y a G d ac N U ab aa).mono λe w' ⟨k',H,I,J,M⟩=>⟨I,⟨k',H,J⟩,M⟩
theorem F8 (h:RmR w0 w R s F) (H:qV n s) (J:n<=1000) (x:Int) {p:Nat} (I:(jz s.book x).length=p): ∃B,w.cell? ⟨R,0,none⟩=some (π (some ⟨B,0,none⟩))/\
  Calls prog 21 #[θ #[γ B],ι x] w λe w'=>(∃o cap,e= .returned (δ o p cap))/\qa w w':=by
 obtain⟨B,b,d,G⟩:=h.bk;refine⟨B,d,(CK G x (by have:=H.num.book;omega)).mono ?_⟩;rintro e w' ⟨⟨v,rfl,o,cap,rfl,_⟩,m⟩;rw[I];exact⟨⟨o,cap,rfl⟩,m⟩
theorem IF (h:RmR w0 w R s F) (H:qV n s) (J:n<=1000) (x:Int) {p:Nat} (I:(jz s.book x).length=p): ∃B,w.cell? ⟨R,0,none⟩=some (π (some ⟨B,0,none⟩))/\
  Calls prog 22 #[θ #[γ B],ι x] w λe w'=>(∃c1 c2 c3 c4 c5 c6 c7 c8:Int,e= .returned (θ #[ι (p:Int),ι c1,ι c2,ι c3,ι c4,ι c5,ι c6,ι c7,ι c8]))/\qa w w':=by
 obtain⟨B,b,d,G⟩:=h.bk;refine⟨B,d,(Ls G x (by have:=H.num.book;omega)).mono ?_⟩;rintro e w' ⟨rfl,m⟩;refine⟨⟨zL x 1 s.book,zL x 2 s.book,zL x 3 s.book,zL x 4 s.book,zL x 5 s.book,zL x 6 s.book,zL x 7 s.book,zL x 8 s.book, ?_⟩,m⟩;rw[<-I,<-Da];rfl
end
theorem Mg (d c1 c2 c3 G H I J M:Int) (w:World):(Instr.index 89 (θ #[ι d,ι c1,ι c2,ι c3,ι G,ι H,ι I,ι J,ι M]) (ι 0)).run prog w= .ok (ι d) w:=rfl
structure Ib (s:RmS) (x:Int) (a b c p:Nat) (g t:Bool):Prop where
 a:(s.ln x).A.length=a
 b:(s.ln x).B.length=b
 c:(s.ln x).C.length=c
 p:(jz s.book x).length=p
 g:(s.ln x).gone=g
 t:(qh s.lanes x).isSome=t
theorem LB (s:RmS) (x:Int): ∃a b c p g t,Ib s x a b c p g t:=⟨_,_,_,_,_,_,rfl,rfl,rfl,rfl,rfl,rfl⟩
theorem Hb {I w:World} {R:Nat} {s:RmS} {F:List Nat} {x:Int} {a b c p:Nat} {g t:Bool} (h:RmR I w R s F) (d:Ib s x a b c p g t):Calls prog 20 #[γ R,ι x] w λe w'=>
  ∃c1 c2,e= .returned (.tuple #[θ #[ι c1,ι c2],θ #[ι a,ι b,ι c],g,t])/\qa w w':=
 (Ha h x rfl d.t).mono λe w' ⟨G,H⟩=>⟨(s.ln x).cur,(s.ln x).tgt,by rw[G,d.a,d.b,d.c,d.g],H⟩
end Go.Proofs.YtdgippmmaponfaaGreat
