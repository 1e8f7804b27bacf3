/- x -/
import Derived.Test.YtmgaiiffmheabaaGreatDoorMg1
namespace Go.Proofs.YtmgaiiffmheabaaGreatDoor
open Option renaming some->ϊ,none->ϋ
open Bool renaming true->ό,false->ύ
open Go.Value renaming bool->μ,slice->δ,pointer->π,agg->θ
open Go.IntKind renaming i64->ι,u8->υ,u16->φ,u32->ω,i32->χ,u64->ψ
open _root_.Go.Proofs.Tryz
set_option linter.all false
set_option maxHeartbeats 8000000
open Go.RowKit
set_option maxRecDepth 100000
variable {q css:List (List Value)} {w:World} {xs:List Value} {v:Value} {P:Prop} {base first room n size e R A:Nat} {S:Nat->Prop} {H I d G:Int}
def LN (w:World):(zeroValue 199).run prog w= .ok (Γa) w:=by kernel_rfl
def zsI:(Builtin.zeroCells (Γa:Value).cells 1).toList=Γa:=by kernel_rfl
def zokI:(Γa:List Value).length=13/\ ∀u∈(Γa:List Value),u.oneCell'=ό:=⟨rfl,by simp[Value.oneCell']⟩
def Ψ2 (h:P:=by
 have am:=κ h;have ai:=h.ofHead;have Y:c.toArray.size=(Ξa:Nat):=by simpa using ai.1
 have aB:=h.fst;have aQ:(first:Int)<(room:Int):=by have:=h.fst;omega
 have aR:0<=(first:Int):=by omega
 have aS:=h.pos.1;have aT:=h.pos.2;have aU:((c::T).length:Int)<=8:=by have:=h.fits;have:=h.pos.2;omega
 clear h
 go_enter Ξb,Ξc
 go_wp2;obtain⟨W1,ag⟩:=ν (w.alloc (.cells Ξd (Ξe:Nat)));have av:Hid (ql w W1):=κ (by rw[<-ag];exact ql.alloc _ _);have J:Hid (qN (Ξa:Nat) (Ξf:Nat) (Ξe:Nat) W1 R A room first (c::T) ae af ac ad css):=κ (am.o.more av.o);have aj:Hid (W1.heap[w.heap.size]? =ϊ (.cells Ξd (Ξe:Nat) (0,0))):=κ (by rw[<-ag];exact qj w _);have aP:R<w.heap.size:=qn am.o.ring;have aN:A<w.heap.size:=qn am.o.row;rw[ag];have aC:w.heap.size<W1.heap.size:=qn aj.o;generalize aV:w.heap.size=rc at *;clear ag;have aa: ∀x:qt W1,x.w'.cell? ⟨R,0,ϋ⟩=ϊ (δ (ϊ ⟨A,0,ϋ⟩) room room):=λx=>x.cell (qn J.o.ring) (qa J.o.ring 0 rfl)
 have ab: ∀x:qt W1,x.w'.cell? ⟨R,1,ϋ⟩=ϊ (ι first):=λx=>x.cell (qn J.o.ring) (qa J.o.ring 1 rfl)
 refine Qn W1 11 12 [10,11] ?_
 refine Qq9 ?_
 have au: ∀x:qt W1,x.w'.rangeAt A (first* (Ξa:Nat)) c:=λx=>by have:=(J.o.more x.h).range aB;rw[J.o.head] at this;exact this
 refine jh rfl rfl (qk ρ) (Ξe:Nat) (.tmp 12) rfl A (first* (Ξa:Nat)) rfl c _ (λw' aI=>by obtain⟨x,rfl⟩:=aI;exact au x) Ξg rfl (by rw[ai.1];kernel_rfl) ?_;intro K d;go_simp;refine d _ ?_;clear d K
 (refine Ql ?_;intro K d)
 refine⟨qk ρ,d _ _ ?_⟩;clear d K;refine zY rfl rfl ζ ?_;intro K d;refine jr (Ξe:Nat) (.tmp 3) (.tmp 13) rfl W1.heap.size (Ξe:Nat) _ c.toArray rfl rfl (qj _ _) (by rw[Y];kernel_rfl) (by rw[Y];rfl) (all_oneCell_toArray ai.2) ?_;refine⟨trivial, ?_⟩;go_simp;refine d _ _ ?_;clear d K;refine qA ?_;obtain⟨W2,ah⟩:=ν (((W1.drewN 1).alloc (.cells Ξd (Ξe:Nat))).setRow W1.heap.size c.toArray);have ax:Hid (W2.heap[W1.heap.size]? =ϊ (.cells c.toArray (Ξe:Nat) (0,0))):=κ (by rw[<-ah];exact jY (qj _ _) _);have an:Hid (ql W1 W2):=κ (by rw[<-ah];exact(EC _ _ _).to_more (((ql.refl W1).dr 1).al _) (λk e=>by rw[e];exact ϔ _));have G:=κ (J.o.more an.o);have ap:=κ (qq an.o aj.o);have aO:R<W1.heap.size:=ϗ τ (S5 aC);have aM:A<W1.heap.size:=ϗ τ (S5 aC);rw[ah];generalize W1.heap.size=xc at *;clear ah aa ab au aj J
 go_wp2_with fail
 have aa: ∀x:qz (λb=>b=A) W2,x.w'.cell? ⟨R,0,ϋ⟩=ϊ (δ (ϊ ⟨A,0,ϋ⟩) room room):=λx=>x.cell (qn G.o.ring) G.o.ne (qa G.o.ring 0 rfl)
 have ab: ∀x:qz (λb=>b=A) W2,x.w'.cell? ⟨R,1,ϋ⟩=ϊ (ι first):=λx=>x.cell (qn G.o.ring) G.o.ne (qa G.o.ring 1 rfl)
 refine QN (λb=>b=A) W2 15 15 [14] ?_
 refine Qq ?_
 refine jR rfl rfl ?_;intro K d;have aA:=kW (P:=prog) (W2.drewN 1) (Ξh:Nat) 0 (Ξe:Nat) _ Ξd Ξi Ξj Ξk A (first* (Ξa:Nat)) (room-first) css.flatten.toArray (qb G.o.row 1) (by rw[G.o.size];have:=A0 (Ξa:Nat) (show first+1<=room by omega);simp;omega) Ξl.2;simp only[List.toList_toArray] at aA;unfold jn;go_simp;refine⟨qi (((jt.refl (λb=>b=A) W2).drewN 1).row (g:=A) rfl _),d _ _ ?_⟩;clear d K aA aa ab;refine qA ?_;obtain⟨H,O⟩:=ν ((W2.drewN 1).setRow A (xQ css.flatten (first* (Ξa:Nat)) Ξd).toArray);have ao:Hid (jt (RgB R A) W2 H):=κ (by rw[<-O];exact((jt.refl _ _).drewN 1).row (ϕ rfl) _);have I:Hid (H.heap[R]? =ϊ (.cells (jV A room first (c::T).length ae af ac ad) (Ξf:Nat) (0,0))):=κ (by rw[<-O];exact qS (qb G.o.ring 1) _ G.o.ne);have aw:Hid (H.heap[A]? =ϊ (.cells (css.set first Ξd).flatten.toArray (Ξe:Nat) (0,0))):=κ (by rw[<-O,<-JO css first _ G.o.cl Ξl.1 (by rw[G.o.len];exact aB)];exact jY (qb G.o.row 1) _);have ay:Hid (H.heap[xc]? =ϊ (.cells c.toArray (Ξe:Nat) (0,0))):=κ (by rw[<-O];exact qS (qb ax.o 1) _ τ);have aq:Hid (H.heap[rc]? =ϊ (.cells Ξd (Ξe:Nat) (0,0))):=κ (by rw[<-O];exact qS (qb ap.o 1) _ τ);rw[O];clear O ax ap
 go_wp2_with fail
 have aa: ∀x:qt H,x.w'.cell? ⟨R,0,ϋ⟩=ϊ (δ (ϊ ⟨A,0,ϋ⟩) room room):=λx=>x.cell (qn I.o) (qa I.o 0 rfl)
 have ab: ∀x:qt H,x.w'.cell? ⟨R,1,ϋ⟩=ϊ (ι first):=λx=>x.cell (qn I.o) (qa I.o 1 rfl)
 have aG:H.frozen? ⟨R,1,ϋ⟩=ύ:=yw I.o 1;have aJ:H.cell? ⟨R,1,ϋ⟩=ϊ (ι first):=qa I.o 1 rfl;refine Qn H 14 15 [12,14] ?_
 refine Qs ?_
 (refine Ql ?_;intro K d)
 refine⟨qk ρ,d _ _ ?_⟩;clear d K
 refine Qq1 ?_
 (refine Qe ?_;intro K d)
 refine d _ _ ?_;clear d K aa ab;refine qA ?_;have az:((first:Int)+1)%(room:Int)=(((first+1)%room:Nat):Int):=by rw[J0];rfl
 rw[az];obtain⟨N,U⟩:=ν ((H.drewN 1).setCell ⟨R,1,ϋ⟩ (ι ((first+1)%room:Nat)));have aD:Hid (jt (RgB R A) W2 N):=κ (by rw[<-U];exact(ao.o.drewN 1).set (ϑ rfl) _);have ak:Hid (N.heap[R]? =ϊ (.cells (jV A room ((first+1)%room) (c::T).length ae af ac ad) (Ξf:Nat) (0,0))):=κ (by rw[<-U];exact qB (qp (qb I.o 1) 1 _) rfl);have aE:Hid (N.heap[A]? =ϊ (.cells (css.set first Ξd).flatten.toArray (Ξe:Nat) (0,0))):=κ (by rw[<-U];exact qo (qb aw.o 1) _ _ (C4 G.o.ne));have aF:Hid (N.heap[xc]? =ϊ (.cells c.toArray (Ξe:Nat) (0,0))):=κ (by rw[<-U];exact qo (qb ay.o 1) _ _ (by show xc≠R;omega));have ar:Hid (N.heap[rc]? =ϊ (.cells Ξd (Ξe:Nat) (0,0))):=κ (by rw[<-U];exact qo (qb aq.o 1) _ _ (by show rc≠R;omega));rw[U];clear U ao I aw ay aq aG aJ az;have aW:N.cell? ⟨R,2,ϋ⟩=ϊ (ι (c::T).length):=qa ak.o 2 rfl;have aL:N.frozen? ⟨R,2,ϋ⟩=ύ:=yw ak.o 2;have aK:(((c::T).length:Nat):Int)-1=(T.length:Int):=by simp
 go_wp2_with (first | (refine vO rfl (Ξe:Nat) (.tmp 3) rfl xc (Ξe:Nat) c.toArray _ (qo aF.o _ _ (by show xc≠R;omega)) rfl Ξg rfl (by rw[Y];kernel_rfl) ?_) | (refine xW rfl (Ξe:Nat) (.tmp 2) (.tmp 49) rfl rc (Ξe:Nat) _ c.toArray (qo ar.o _ _ (by show rc≠R;omega)) rfl rfl (by rw[Y];kernel_rfl) (by rw[Y];rfl) (all_oneCell_toArray ai.2) ?_))
 have aH:R≠A:=G.o.ne;refine bodyPost_ret (v:= θ c.toArray) (results_cell_row Ξm _ _ rc (Ξe:Nat) c.toArray (0,0) _ rfl (jY (qo ar.o _ _ (by show rc≠R;omega)) _) Ξg rfl (by rw[Y];kernel_rfl)) rfl ?_;refine⟨rfl, ?_, ?_⟩
 ·exact G.o.took Ξl (qS (qB (qp ak.o 2 _) (by simp[jV])) _ τ) (qS (qo aE.o _ _ (C4 aH)) _ τ)
 ·exact(((jt.of_more (av.o.trans an.o)).trans aD.o).set (ϑ rfl) _).rowNew τ _):P:=h
section
open _root_.Go.Proofs.Tryz renaming func277->Ξb,ntmps277->Ξc,underlying199->Ξg,underlying272->Ξi,results277->Ξm
open _root_.Go.Proofs.YtmgaiiffmheabaaGreatDoor renaming Ν13->Ξa,Γa->Ξd,Ν199->Ξe,Ν274->Ξf,Ν272->Ξh,LN->Ξj,zsI->Ξk,zokI->Ξl
def DK (w:World) (R A room first:Nat) (c:List Value) (T:List (List Value)) (ae af ac ad:Int) (css:List (List Value)) (h:qN 13 274 199 w R A room first (c::T) ae af ac ad css):
  Calls prog 277 #[γ R] w λe w'=>e= .returned (θ c.toArray)/\qN 13 274 199 w' R A room ((first+1)%room) T ae af ac ad (css.set first Γa)/\jt (RgB R A) w w':=Ψ2
end
def Ni (h:qN 13 274 199 w R A room first q H I d G css):
  Calls prog 222 #[γ R] w λe w'=>e= .returned (ι q.length)/\w'=w:=by
 have J:w.cell? ⟨R,2,ϋ⟩=ϊ (ι q.length):=qa h.ring 2 rfl;clear h
 go_enter func222,ntmps222
 go_wp2;go_ret;exact⟨rfl,rfl⟩
def Ψ3 (h:P:=by
 have O:w.cell? ⟨R,0,ϋ⟩=ϊ (δ (ϊ ⟨A,0,ϋ⟩) room room):=qa h.ring 0 rfl;have U:w.cell? ⟨R,2,ϋ⟩=ϊ (ι q.length):=qa h.ring 2 rfl;have N:((q.length:Int)==(room:Int))=decide (q.length=room):=by by_cases e:q.length=room<;>simp[e];omega
 clear h
 go_enter Ξa,Ξb
 go_wp2;refine wp_region_quiet_lit ξ ξ ?_
 repeat (go_big_quiet_step (fail))
 refine wpQuiet_nil ?_;intro _ J;obtain⟨nq,rfl⟩:=J;go_wp2;go_ret;exact⟨rfl,nq,rfl⟩):P:=h
section
open _root_.Go.Proofs.Tryz renaming func295->Ξa,ntmps295->Ξb
def Mj (h:qN 13 274 199 w R A room first q H I d G css):
  Calls prog 295 #[γ R] w λe w'=>e= .returned (μ (decide (q.length=room)))/\ ∃k,w'=w.drewN k:=Ψ3
end
def mkI (n:Nat) (N:1<=n) (O:n<=8) (w:World):
  (Instr.makeSlice 272 (ι (n:Int)) (ι (n:Int))).run prog w= .ok (δ (ϊ ⟨w.heap.size,0,ϋ⟩) n n) (w.alloc (.cells (List.replicate n (Γa:List Value)).flatten.toArray 199)):=by
 obtain⟨J,hi,G,H,I⟩:=info_parts (P:=prog) (e:=199) (z:= Γa) (size:=13) (bytes:=120) ξ;have d:=run_make (P:=prog) w 272 199 J (Γa) underlying272 hi G .i64 .i64 n n τ τ (by rw[I];omega) τ;rw[d];simp only[A5,H];rw[Yq _ 13 n rfl ζ];rfl
def Pp (m:Int) (n:Nat) (I:m=n) (d:1<=n) (G:n<=8) (w:World):
  Calls prog 98 #[ι m] w λe w'=>e= .returned (.tuple #[γ (w.heap.size+1),ι 0])/\qN 13 274 199 w' (w.heap.size+1) w.heap.size n 0 [] 0 0 0 0 (List.replicate n (Γa:List Value))/\ql w w':=by
 subst I;have J:1<=(n:Int):=by omega
 go_enter func98,ntmps98
 have N:=mkI n d G;go_wp2;refine bodyPost_ret (v:= .tuple #[γ (w.heap.size+1),ι 0]) (by simp[results,results98,go_sem]) rfl ?_;refine⟨rfl, ?_,ρ⟩;exact⟨qC η,qs (qB (qj _ _) rfl) _,τ,η,λc H=>by rw[I4 H];exact zokI,⟨d,G⟩,τ,η,λi hi=>by simp at hi⟩
def Ψ4 (h:P:=by
 have d:=κ h;have Y:=h.ofHead;have J:c.toArray.size=(Ξa:Nat):=by simpa using Y.1
 have af:(((c::T).length:Int)==0)=ύ:=by simp;omega
 clear h;have ae:R<w.heap.size:=qn d.o.ring;have ad:A<w.heap.size:=qn d.o.row;have ag:w.cell? ⟨R,2,ϋ⟩=ϊ (ι (c::T).length):=qa d.o.ring 2 rfl;have ah:w.cell? ⟨R,5,ϋ⟩=ϊ (ι O):=qa d.o.ring 5 rfl;have ac:w.frozen? ⟨R,5,ϋ⟩=ύ:=yw d.o.ring 5
 go_enter Ξb,Ξc
 go_wp2_with (first | (((with_reducible refine(Ξd _ R A room first c T I _ G H css ((d.o.popped _).more X6)).mono ?_);rintro e w5 ⟨rfl,U,a5⟩;have ab:=κ U;have aa:Hid (jt (RgB R A) w w5):=κ ((((jt.refl _ _).set (ϑ rfl) _).alc _).trans a5);have N:Hid (w5.heap[w.heap.size]? =ϊ (.cells Ξe (Ξf:Nat) (0,0))):=κ (a5.blk (qC η) X9);clear U a5)) | (refine xW rfl (Ξf:Nat) (.tmp 2) (.tmp 21) rfl w.heap.size (Ξf:Nat) _ c.toArray N.o rfl rfl (by rw[J];kernel_rfl) (by rw[J];rfl) (all_oneCell_toArray Y.2) ?_))
 refine bodyPost_ret (v:= .tuple #[θ c.toArray,ό]) (yo Ξg _ _ w.heap.size (Ξf:Nat) c.toArray _ _ rfl rfl (jY N.o _) Ξh rfl (by rw[J];kernel_rfl)) rfl ?_;exact⟨rfl,⟨_,ab.o.away (EC _ _ _) (λe:R=w.heap.size=>by omega) (λe:A=w.heap.size=>by omega)⟩,aa.o.rowNew (ϔ _) _⟩):P:=h
section
open _root_.Go.Proofs.Tryz renaming func251->Ξb,ntmps251->Ξc,results251->Ξg,underlying199->Ξh
open _root_.Go.Proofs.YtmgaiiffmheabaaGreatDoor renaming Ν13->Ξa,DK->Ξd,Γa->Ξe,Ν199->Ξf
def Nb (w:World) (R A room first:Nat) (c:List Value) (T:List (List Value)) (I O G H:Int) (css:List (List Value)) (h:qN 13 274 199 w R A room first (c::T) I O G H css):
  Calls prog 251 #[γ R] w λe w'=>e= .returned (.tuple #[θ c.toArray,ό])/\(∃co',qN 13 274 199 w' R A room ((first+1)%room) T I co' G H (css.set first Γa))/\jt (RgB R A) w w':=Ψ4
end
def Ψ5 (h:P:=by
 have U:=κ h;have bh:R<w.heap.size:=qn h.ring;have bg:A<w.heap.size:=qn h.row;have bp:(((w.alloc (.cells x.toArray (Ξa:Nat))).alloc (.cells Ξb (Ξa:Nat))).alloc (.cells Ξb (Ξa:Nat))).cell? ⟨R,3,ϋ⟩=ϊ (μ ύ):=qa (qs (qs (qs h.ring _) _) _) 3 rfl;have au:=κ aP;clear h aP
 go_enter Ξc,Ξd
 go_upto_if 16 with (first | (((with_reducible refine(Ξe (U.o.more (((ql.refl w).al _).al _ |>.al _))).mono ?_);rintro e an ⟨rfl,bn,ak⟩;rw[au.o];have ag:Hid (ql w an):=κ (by rw[ak];exact(((ql.refl w).al _).al _ |>.al _).dr _);have az:Hid (an.heap[w.heap.size]? =ϊ (.cells x.toArray (Ξa:Nat) (0,0))):=κ (by rw[ak];exact qb (qs (qs (qj _ _) _) _) _);have aw:Hid (an.heap[w.heap.size+1]? =ϊ (.cells Ξb (Ξa:Nat) (0,0))):=κ (by rw[ak];exact qb (qs (qC η) _) _);have ax:Hid (an.heap[w.heap.size+2]? =ϊ (.cells Ξb (Ξa:Nat) (0,0))):=κ (by rw[ak];exact qb (qC η) _);clear ak)))
 go_cut [] from 17 to 67 (λao=> ∃(G:List Value) (f:Nat) (q:List (List Value)) (H:Int) (cs:List (List Value)),qN (Ξf:Nat) (Ξg:Nat) (Ξa:Nat) ao R A room f q aa aj H ai cs/\jt (RgB R A) w ao/\ao.heap[w.heap.size]? =ϊ (.cells x.toArray (Ξa:Nat) (0,0))/\ao.heap[w.heap.size+1]? =ϊ (.cells Ξb (Ξa:Nat) (0,0))/\ao.heap[w.heap.size+2]? =ϊ (.cells G.toArray (Ξa:Nat) (0,0))/\q.length<room/\(G.length=(Ξf:Nat)/\ ∀u∈G,u.oneCell'=ό)/\Wt Ξb first room O css Y ab G f q H cs)
 case first=>
  cases ab with
  | false=>
   have aD:O.length<room:=by have:=U.o.fits;have:=D8 au.o;omega
   go_wp2;go_meet;exact⟨Ξb,first,O,Y,css,U.o.more ag.o,jt.of_more ag.o,az.o,aw.o,ax.o,aD,Ξh,rfl,rfl,rfl,rfl,rfl⟩
  | true=>
   cases O with
   | nil=>exact ϧ (Ϧ au.o) (by have:=U.o.pos;simp;omega)
   | cons c T=>
    have aC:=U.o.ofHead;have N:c.toArray.size=(Ξf:Nat):=by simpa using aC.1
    have aD:T.length<room:=by have:=Ϧ au.o;simp at this;omega
    go_wp2_with (first | (((with_reducible refine(Ξi an R A room first c T aa aj Y ai css (U.o.more ag.o)).mono ?_);rintro e w5 ⟨rfl,ac,a5⟩;have aK:=κ ac;have aF:=κ a5;have aL:=κ (a5.blk az.o X9);have aH:=κ (a5.blk aw.o X9);have ay:=κ (a5.blk ax.o X9);clear ac a5)) | (refine yL (.store (Ξa:Nat) (.tmp 7) (.tmp 18)) rfl ?_;refine xW rfl (Ξa:Nat) (.tmp 7) (.tmp 18) rfl (w.heap.size+2) (Ξa:Nat) _ c.toArray ay.o rfl rfl (by rw[N];kernel_rfl) (by rw[N];rfl) (all_oneCell_toArray aC.2) ?_;obtain⟨w6,aT⟩: ∃w6,w5.setRow (w.heap.size+2) c.toArray=w6:=⟨_,rfl⟩;have ar:=κ (aK.o.away (EC w5 (w.heap.size+2) c.toArray) (λe:R=w.heap.size+2=>by omega) (λe:A=w.heap.size+2=>by omega));have ap:Hid (jt (RgB R A) w (w5.setRow (w.heap.size+2) c.toArray)):=κ (((jt.of_more ag.o).trans aF.o).rowNew τ _);have aN:Hid ((w5.setRow (w.heap.size+2) c.toArray).heap[w.heap.size]? =_):=κ (qS aL.o _ τ);have ae:Hid ((w5.setRow (w.heap.size+2) c.toArray).heap[w.heap.size+1]? =_):=κ (qS aH.o _ τ);have aq:Hid ((w5.setRow (w.heap.size+2) c.toArray).heap[w.heap.size+2]? =_):=κ (jY ay.o c.toArray);rw[aT] at ar ap aN ae aq ⊢;clear aT aK aF aL aH ay;have br:w6.cell? ⟨R,6,ϋ⟩=ϊ (ι Y):=qa ar.o.ring 6 rfl;have bf:w6.frozen? ⟨R,6,ϋ⟩=ύ:=yw ar.o.ring 6))
    go_meet;exact⟨c,_,T,_,css.set first Ξb,ar.o.dropped _,ap.o.set (ϑ rfl) _,qo aN.o _ _ (by show w.heap.size≠R;omega),qo ae.o _ _ (by show w.heap.size+1≠R;omega),qo aq.o _ _ (by show w.heap.size+2≠R;omega),aD,aC,rfl,rfl,rfl⟩
 case rest=>
 obtain⟨G,f,q,H,cs,ac,a5,aE,aA,c5,bb,aR,aS⟩:=hcut;have N:G.toArray.size=(Ξf:Nat):=by simpa using aR.1
 obtain⟨ah,aB⟩:=ν (wc);rw[aB] at ac a5 aE aA c5;rw[aB];have d:=κ ac;have aG:=κ a5;have aM:=κ aE;have aI:=κ aA;have aJ:=κ c5;have aU:=κ aS;clear ac a5 aE aA c5 aS aB ag az aw ax
 go_upto_region 8 with fail
 have aV: ∀x:qt ah,x.w'.cell? ⟨R,0,ϋ⟩=ϊ (δ (ϊ ⟨A,0,ϋ⟩) room room):=λx=>x.cell (qn d.o.ring) (qa d.o.ring 0 rfl)
 have aW: ∀x:qt ah,x.w'.cell? ⟨R,1,ϋ⟩=ϊ (ι f):=λx=>x.cell (qn d.o.ring) (qa d.o.ring 1 rfl)
 have aX: ∀x:qt ah,x.w'.cell? ⟨R,2,ϋ⟩=ϊ (ι q.length):=λx=>x.cell (qn d.o.ring) (qa d.o.ring 2 rfl)
 have bk:((f:Int)+(q.length:Int))%(room:Int)=(((f+q.length)%room:Nat):Int):=by rw[J0];rfl
 have ba:(f+q.length)%room<room:=I2 _ τ;have hi:(((f+q.length)%room:Nat):Int)<(room:Int):=by omega
 have bl:=d.o.pos;have bi:=d.o.fst;have bj:(f:Int)<=8:=by omega
 have bm:(q.length:Int)<=8:=by omega
 generalize aZ:(f+q.length)%room=I at *;refine Qn ah 21 22 [21] ?_
 refine Ny ?_
 refine jh rfl rfl (qk ρ) (Ξa:Nat) (.tmp 3) rfl w.heap.size 0 rfl x _ (λw' bc=>by obtain⟨y,rfl⟩:=bc;exact xy (qq y.h aM.o)) Ξj rfl (by rw[ad.1];kernel_rfl) ?_;intro K am;go_simp;refine am _ ?_;clear am K
 refine Qq1 ?_
 refine zY rfl rfl ζ ?_;intro K am;refine zF (Ξa:Nat) (.tmp 48) (.tmp 47) rfl A (I* (Ξf:Nat)) (Ξa:Nat) cs.flatten.toArray x rfl rfl (qb d.o.row 1) (by rw[d.o.size,ad.1];have:=A0 (Ξf:Nat) (show I+1<=room by omega);omega) (by rw[ad.1];kernel_rfl) ad.2 ?_;refine⟨trivial, ?_⟩;go_simp;refine am _ _ ?_;clear am K aV aW aX;refine qA ?_;obtain⟨W6,J⟩:=ν ((ah.drewN 1).setRow A (xQ cs.flatten (I* (Ξf:Nat)) x).toArray);have ap:Hid (jt (RgB R A) w W6):=κ (by rw[<-J];exact(aG.o.drewN 1).row (ϕ rfl) _);have af:Hid (W6.heap[R]? =ϊ (.cells (jV A room f q.length aa aj H ai) (Ξg:Nat) (0,0))):=κ (by rw[<-J];exact qS (qb d.o.ring 1) _ d.o.ne);have aY:Hid (W6.heap[A]? =ϊ (.cells (cs.set I x).flatten.toArray (Ξa:Nat) (0,0))):=κ (by rw[<-J,<-JO cs I _ d.o.cl ad.1 (by rw[d.o.len];exact ba)];exact jY (qb d.o.row 1) _);have ae:Hid (W6.heap[w.heap.size+1]? =ϊ (.cells Ξb (Ξa:Nat) (0,0))):=κ (by rw[<-J];exact qS (qb aI.o 1) _ τ);have aq:Hid (W6.heap[w.heap.size+2]? =ϊ (.cells G.toArray (Ξa:Nat) (0,0))):=κ (by rw[<-J];exact qS (qb aJ.o 1) _ τ);rw[J];clear J aG aM aI aJ;have aO:w.heap.size+2≠R:=by omega
 have av:w.heap.size+1≠R:=by omega
 have bo:W6.cell? ⟨R,2,ϋ⟩=ϊ (ι q.length):=qa af.o 2 rfl;have bd:W6.frozen? ⟨R,2,ϋ⟩=ύ:=yw af.o 2;have bq:W6.cell? ⟨R,4,ϋ⟩=ϊ (ι aa):=qa af.o 4 rfl;have be:W6.frozen? ⟨R,4,ϋ⟩=ύ:=yw af.o 4
 go_wp2_with (first | (refine yL (.load (Ξa:Nat) (.tmp 7)) rfl ?_;refine vO rfl (Ξa:Nat) (.tmp 7) rfl (w.heap.size+2) (Ξa:Nat) G.toArray _ (qo (qo aq.o ⟨R,2,ϋ⟩ _ aO) ⟨R,4,ϋ⟩ _ aO) rfl Ξj rfl (by rw[N];kernel_rfl) ?_) | (refine yL (.store (Ξa:Nat) (.tmp 4) (.tmp 65)) rfl ?_;refine xW rfl (Ξa:Nat) (.tmp 4) (.tmp 65) rfl (w.heap.size+1) (Ξa:Nat) _ G.toArray (qo (qo ae.o ⟨R,2,ϋ⟩ _ av) ⟨R,4,ϋ⟩ _ av) rfl rfl (by rw[N];kernel_rfl) (by rw[N];rfl) (all_oneCell_toArray aR.2) ?_))
 have aQ:R≠A:=d.o.ne;refine bodyPost_ret (v:= .tuple #[θ G.toArray,ab,ι 0]) (KW Ξk _ _ (w.heap.size+1) (Ξa:Nat) G.toArray _ _ _ rfl rfl rfl (jY (qo (qo ae.o ⟨R,2,ϋ⟩ _ av) ⟨R,4,ϋ⟩ _ av) _) Ξj rfl (by rw[N];kernel_rfl)) rfl ?_;subst aZ;refine⟨_,_,_,_,_,rfl,⟨wrap64 (aa+1),d.o.put bb ad ?_ ?_⟩,((ap.o.set (ϑ rfl) _).set (ϑ rfl) _).rowNew τ _,aU.o⟩
 ·exact qS (qB (qp (qp af.o 2 _) 4 _) rfl) _ τ
 ·exact qS (qo (qo aY.o _ _ (C4 aQ)) _ _ (C4 aQ)) _ τ):P:=h
section
open _root_.Go.Proofs.Tryz renaming func250->Ξc,ntmps250->Ξd,underlying199->Ξj,results250->Ξk
open _root_.Go.Proofs.YtmgaiiffmheabaaGreatDoor renaming Ν199->Ξa,Γa->Ξb,Mj->Ξe,Ν13->Ξf,Ν274->Ξg,zokI->Ξh,DK->Ξi
def ZG (w:World) (R A room first:Nat) (O:List (List Value)) (aa aj Y ai:Int) (css:List (List Value)) (h:qN 13 274 199 w R A room first O aa aj Y ai css) (x:List Value) (ad:x.length=13/\ ∀u∈x,u.oneCell'=ό) (ab:Bool) (aP:decide (O.length=room)=ab):
  Calls prog 250 #[γ R,θ x.toArray] w λe w'=> ∃(G:List Value) (f:Nat) (q:List (List Value)) (H:Int) (cs:List (List Value)),e= .returned (.tuple #[θ G.toArray,ab,ι 0])/\(∃ci',qN 13 274 199 w' R A room f (q++[x]) ci' aj H ai (cs.set ((f+q.length)%room) x))/\jt (RgB R A) w w'/\Wt Γa first room O css Y ab G f q H cs:=Ψ5
end
def UF (w:World) (R A room first:Nat) (q:List (List Value)) (I H d G:Int) (css:List (List Value)) (h:qN 13 274 199 w R A room first q I H d G css) (ad:q.length<room) (x:List Value) (ac:x.length=13/\ ∀u∈x,u.oneCell'=ό):
  Calls prog 250 #[γ R,θ x.toArray] w λe w'=>e= .returned (.tuple #[Γa,μ ύ,ι 0])/\(∃ci',qN 13 274 199 w' R A room first (q++[x]) ci' H d G (css.set ((first+q.length)%room) x))/\jt (RgB R A) w w':=
 (ZG w R A room first q I H d G css h x ac ύ (ϯ τ)).mono λe w' ⟨_,_,_,_,_,aa,ab,a,J,N,O,U,Y⟩=>by
  subst J N O U Y;exact⟨aa,ab,a⟩
def UG (w:World) (R A room first:Nat) (c:List Value) (T:List (List Value)) (O I N G:Int) (css:List (List Value)) (h:qN 13 274 199 w R A room first (c::T) O I N G css) (ab:(c::T).length=room) (x:List Value) (ad:x.length=13/\ ∀u∈x,u.oneCell'=ό):
  Calls prog 250 #[γ R,θ x.toArray] w λe w'=>e= .returned (.tuple #[θ c.toArray,ό,ι 0])/\(∃H d,qN 13 274 199 w' R A room ((first+1)%room) (T++[x]) H I d G ((css.set first Γa).set (((first+1)%room+T.length)%room) x))/\jt (RgB R A) w w':=
 (ZG w R A room first (c::T) O I N G css h x ad ό (ϻ ab)).mono λe w' ⟨ae,f,q,d,cs,aa,⟨H,ac⟩,a,J,U,Y⟩=>by
  injection J with J h4
  subst J U Y h4;exact⟨aa,⟨H,d,ac⟩,a⟩
def Ag (c:List Value) (h:c.length=13): ∃a0 a1 a2 a3 a4 a5 a6 a7 a8 a9 a10 a11 a12,c=[a0,a1,a2,a3,a4,a5,a6,a7,a8,a9,a10,a11,a12]:=by
 match c,h with
 | [a0,a1,a2,a3,a4,a5,a6,a7,a8,a9,a10,a11,a12],_=>exact⟨a0,a1,a2,a3,a4,a5,a6,a7,a8,a9,a10,a11,a12,rfl⟩
def zI {w':World} {m:Nat} (h:w.ownsRow base e n v m xs) (a:jt S w w') (H: ∀b,base<=b-> ¬S b):w'.ownsRow base e n v m xs:=by
 obtain⟨d,G⟩:=h;refine⟨d, ?_⟩;rcases G with h | ⟨b,cap,cur,e1,hb,hg,rest⟩
 ·exact ϑ h
 ·exact ϕ ⟨b,cap,cur,e1,hb,a.blk hg (H b hb),rest⟩
def vV {b:Nat} (h:w.ownsRow base e size v n xs) (d:v.ownBlock=ϊ b):base<=b:=by
 rcases h.2 with ⟨rfl,_⟩ | ⟨g,cap,cur,rfl,G,_⟩
 ·cases d
 ·obtain rfl:g=b:=by injection d
  exact G
def zA (h:w.ownsRow base e size v n xs): ∃oa cap,v= δ oa n cap:=by
 rcases h.2 with ⟨rfl,d⟩ | ⟨g,cap,cur,rfl,_⟩
 ·exact⟨ϋ,0,by rw[d]⟩
 ·exact⟨_,cap,rfl⟩
def IN (w:World) (R A room first:Nat) (q:List (List Value)) (J N H I:Int) (css:List (List Value)) (h:qN 13 274 199 w R A room first q J N H I css):
  Calls prog 232 #[γ R] w λe w'=> ∃v,e= .returned v/\w'.ownsRow w.heap.size 199 13 v q.length q.flatten/\(∃first' cg' css',qN 13 274 199 w' R A room first' [] J N H cg' css')/\jt (RgB R A) w w':=by
 obtain⟨aO,aP,aQ,aR,aS⟩:=info_parts (P:=prog) (e:=199) (z:= Γa) (size:=13) (bytes:=120) ξ;have aA:=κ h;have aW:R<w.heap.size:=qn h.ring;have aV:A<w.heap.size:=qn h.row;have bc:w.cell? ⟨R,2,ϋ⟩=ϊ (ι q.length):=qa h.ring 2 rfl;have ba:(q.length:Int)<=8:=by have:=h.fits;have:=h.pos.2;omega
 have aG:=κ h.qall;clear h
 go_enter func232,ntmps232
 go_wp2
 go_loopw [3,8] (λu am wr=> ∃(j f:Nat) (cs:List (List Value)),j<=q.length/\am= ι j/\(∃ax aw aq,u= δ ax aw aq)/\wr.ownsRow w.heap.size 199 13 u j (q.take j).flatten/\qN 13 274 199 wr R A room f (q.drop j) J N H I cs/\jt (RgB R A) w wr) (λ_ am _=>q.length-(intOf am).toNat)
 case atStart=>exact⟨0,first,css,τ,rfl,⟨_,_,_,rfl⟩,World.ownsRow_nil w _ _ _,aA.o,jt.refl _ _⟩
 case round=>
  obtain⟨j,f,cs,aY,rfl,⟨ax,aw,aq,rfl⟩,d,av,au⟩:=hrel;have an:=κ d;have G:=κ av;have ah:=κ au;clear d av au;by_cases hlt:j<q.length
  ·have aj:q.drop j=q[j]::q.drop (j+1):=D1 hlt;have al:q.take (j+1)=q.take j++[q[j]]:=by rw[B9,ϖ hlt];rfl
   have ag:=aG.o q[j] (ϥ hlt);have aZ:(j:Int)<(q.length:Int):=by omega
   obtain⟨c,aI⟩: ∃c,Hid (c=q[j]):=⟨_,κ rfl⟩;rw[<-aI.o] at aj al ag;have aD:=κ (aj▸G.o);have aE:=κ al;have aX:c.toArray.size=13:=by simpa using ag.1
   clear aj al G;obtain⟨a0,U,ac,a3,a4,a5,ad,ae,af,a9,Y,aa,ab,rfl⟩:=Ag c ag.1
   go_wp2_with (first | (go_at_call 277;(go_call DK wr R A room f [a0,U,ac,a3,a4,a5,ad,ae,af,a9,Y,aa,ab] (q.drop (j+1)) J N H I cs aD.o as e w5 ⟨rfl,ar,a5⟩;have aB:=κ ar;have ay:=κ a5;have O:=κ (zI an.o a5 (λb ai e=>by rcases e with e | e<;>omega));have aH:Hid (w.heap.size<=w5.heap.size):=κ (ϙ ah.o.size a5.size);clear ar a5)) | (at_builtin;refine wpList_append_own_at _ rfl (.tmp 10) (.tmp 13) 272 rfl w.heap.size 199 aO (Γa) 13 120 underlying272 aP aQ aR aS rfl ζ _ j (q.take j).flatten rfl (zI O.o (jt.of_more X6) (λb _ e=>e)) ⟨w5.heap.size,0,ϋ⟩ 1 1 [a0,U,ac,a3,a4,a5,ad,ae,af,a9,Y,aa,ab] rfl rfl (λi u aL=>by have:=xy (cs:=[a0,U,ac,a3,a4,a5,ad,ae,af,a9,Y,aa,ab]) (t:=199) (qj w5 (.cells #[a0,U,ac,a3,a4,a5,ad,ae,af,a9,Y,aa,ab] 199)) i u aL;rw[Addr.add_mid];exact this) ag.2 (by unfold maxLen;omega) τ (by have:=aH.o;simp;omega) ?_;intro be w6 d ak aJ aM;have aF:=κ d;have az:Hid (jt (RgB R A) w w6):=κ (((ah.o.trans ay.o).alc _).grown ak (λb ai=>vV O.o ai));have aC:Hid (qN 13 274 199 w6 R A room ((f+1)%room) (q.drop (j+1)) J N H I (cs.set f Γa)):=κ ((aB.o.more X6).away (jt.of_grown ak) (λe=>by have:=vV O.o e;omega) (λe=>by have:=vV O.o e;omega));obtain⟨bb,aT,rfl⟩:=zA d;clear d ak aJ aM))
   go_roundw
   case rel=>exact⟨j+1,(f+1)%room,_,τ,by go_num,⟨_,_,_,rfl⟩,by rw[aE.o,J7];simpa using aF.o,aC.o,az.o⟩
   case measure=>simp[intOf];omega
  ·obtain rfl:j=q.length:=by omega
   have bd:wr.cell? ⟨R,7,ϋ⟩=ϊ (ι I):=qa G.o.ring 7 rfl;have aU:wr.frozen? ⟨R,7,ϋ⟩=ύ:=yw G.o.ring 7;go_wp2;go_ret;have aN:q.drop q.length=[]:=by simp
   have aK:q.take q.length=q:=by simp
   have ap:=G.o;have ao:=an.o;rw[aN] at ap;rw[aK] at ao;exact⟨_,rfl,zI ao ((jt.refl (λb=>b=R) _).set rfl _) (λb ai e=>by omega),⟨_,_,_,ap.drained _⟩,ah.o.set (ϑ rfl) _⟩
def idV (c:List Value):Value:=match c with | .int .i64 n::_=> .int .i64 n | _=> .int .i64 0
def idN (c:List Value):Int:=match c with | .int .i64 n::_=>n | _=>0
def YB (h:w.ownsRow base e n v q.length q.flatten) (I: ∀c∈q,c.length=n):
  ∃oa cap,v= δ oa q.length cap/\ ∀j,j<q.length-> ∃b,oa=ϊ ⟨b,0,ϋ⟩/\b<w.heap.size/\ ∀w',ql w w'->w'.rangeAt b (j* n) (q.getD j []):=by
 obtain⟨Y,O⟩:=h;rcases O with ⟨rfl,N⟩ | ⟨g,cap,cur,rfl,aa,H,af,ac,ad,U⟩
 ·exact⟨ϋ,0,by rw[N],λj d=>by omega⟩
 ·refine⟨_,cap,rfl,λj d=>⟨g,rfl,lt_of_block H,λw' m i u J=> ?_⟩⟩;have ab:(q.getD j []).length=n:=by
   rw[ϒ,ϖ d];exact I _ (ϥ d)
  have hi:i<n:=by have:=(ϣ.1 J).1;omega
  have ae:j* n+n<=q.length* n:=by
   have:(j+1)* n<=q.length* n:=A0 n d;rw[I5,O3] at this;exact this
  have G:=Wr q j i I d hi;rw[<-U,C0,ϓ τ] at G;rw[cell_of_row w' g _ cur e (0,0) (qq m H),<-J,<-G];simp
def Fl (i:Int) (c:List Value) (d:c.length=12) (w:World):Calls prog 233 #[θ (ι i::c).toArray] w λe w'=>e= .returned (ι i)/\ql w w':=by
 obtain⟨a0,G,N,a3,a4,a5,O,U,Y,a9,H,I,J,h⟩:=Ag (ι i::c) (by simp[d]);obtain⟨rfl,rfl⟩:a0= ι i/\c=[G,N,a3,a4,a5,O,U,Y,a9,H,I,J]:=by
  injection h with h1 h2
  exact⟨h1.symm,h2⟩
 clear h d
 go_enter func233,ntmps233
 go_wp2;go_ret;exact⟨rfl,ρ⟩
def Ψ6 (h:P:=by
 obtain⟨aK,hi,aH,aI,aJ⟩:=info_parts (P:=prog) (e:=3) (z:= ι 0) (size:=1) (bytes:=8) ξ;obtain⟨aQ,cap,rfl,aq⟩:=YB row (λc d=>by obtain⟨i,r,rfl,I⟩:=aa c d;simp[I]);have az:=κ aq;have ay:=κ aa;have aB:=κ ai;clear row aq aa ai
 go_enter Ξa,Ξb
 go_wp2
 go_loopw [5,10] (λu ae wr=> ∃j:Nat,j<=q.length/\ae= ι j/\(∃av au ah,u= δ av au ah)/\wr.ownsRow w.heap.size 3 1 u ((q.take j).map idN).length (((q.take j).map idN).map (Value.int .i64))/\ql w wr) (λ_ ae _=>q.length-(intOf ae).toNat)
 case atStart=>exact⟨0,τ,rfl,⟨_,_,_,rfl⟩,World.ownsRow_nil w _ _ _,ql.refl _⟩
 case round=>
  obtain⟨j,aM,rfl,⟨av,au,ah,rfl⟩,ap,ao⟩:=hrel;have J:=κ ap;have H:=κ ao;clear ap ao;by_cases hlt:j<q.length
  ·have aO:(j:Int)<(q.length:Int):=by omega
   have ac:(q.take (j+1)).map idN=(q.take j).map idN++[idN q[j]]:=by rw[B9,ϖ hlt,ϩ];rfl
   obtain⟨b,rfl,aL,ak⟩:=az.o j hlt;have an:q.getD j []=q[j]:=by rw[ϒ,ϖ hlt];rfl
   have G:=κ (ak wr H.o);rw[an] at G;obtain⟨id,r,ab,I⟩:=ay.o q[j] (ϥ hlt);rw[ab] at ac G;have aA:Hid ((q.take (j+1)).map idN=(q.take j).map idN++[id]):=κ ac;have ad:=aB.o q[j] (ϥ hlt);rw[ab] at ad;obtain⟨c,d⟩: ∃c,c= ι id::r:=⟨_,rfl⟩;have O:=Ξc id r I;rw[<-d] at G ad O;have aj:c.length=(Ξd:Nat):=by rw[d];simp[I]
   have U:c.toArray.size=(Ξd:Nat):=by simpa using aj
   have ax:=κ O;clear d O;clear an ak ab ac;have c1:(((q.take j).map idN).length+[id].length)* 8<=140737488355328:=(by simp;omega)
   go_wp2_with (first | (refine yL (.load (Ξe:Nat) (.tmp 12)) rfl ?_;refine wpList_load_mid rfl (Ξe:Nat) (.tmp 12) rfl b (j* (Ξd:Nat)) rfl c _ G.o Ξf rfl (by rw[aj];kernel_rfl) ?_) | (refine yL (.store (Ξe:Nat) (.tmp 7) (.tmp 13)) rfl ?_;refine xW rfl (Ξe:Nat) (.tmp 7) (.tmp 13) rfl wr.heap.size (Ξe:Nat) _ c.toArray (qj wr _) rfl rfl (by rw[U];kernel_rfl) (by rw[U];rfl) (all_oneCell_toArray ad) ?_;have aw:=κ (jY (qj wr (.cells Ξg (Ξe:Nat))) c.toArray)) | (refine yL (.load (Ξe:Nat) (.tmp 7)) rfl ?_;refine vO rfl (Ξe:Nat) (.tmp 7) rfl wr.heap.size (Ξe:Nat) c.toArray _ aw.o rfl Ξf rfl (by rw[U];kernel_rfl) ?_) | (refine(ax.o _).mono ?_;rintro e w1 ⟨rfl,ar⟩;have N:Hid (ql wr w1):=κ (((EC _ _ _).to_more X6 (λk e=>by rw[e];exact ϔ _)).trans ar);clear ar) | (at_builtin;refine xr _ rfl (.tmp 14) (.tmp 18) 57 rfl w.heap.size 3 aK (ι 0) 8 underlying57 hi aH aI aJ rfl _ .i64 ((q.take j).map idN) rfl (zI J.o (S:=λ_=>False) ((jt.of_more N.o).alc _) (λ_ _ h=>h)) _ [id] rfl (SlI.lit .i64 w1 [id] 3 _ 1 _ η rfl rfl η) c1 ζ (ϙ (H.o.trans N.o).size X6.size) ?_;intro aR w2 Y am;have aD:=κ Y;have aC:Hid (ql w w2):=κ ((jt.of_more (S:=λ_=>False) ((H.o.trans N.o).al _)).grown am (λk aE=>vV J.o aE) |>.to_more (ql.refl _) (λk e=>e.elim));obtain⟨o2,c2,rfl⟩:=zA Y;clear Y am))
   go_roundw
   case rel=>exact⟨j+1,τ,by go_num,⟨_,_,_,rfl⟩,by rw[aA.o];have ag:=aD.o;have aF:((q.take j).map idN++[id]).length=j+1:=(by simp;omega);(rw[aF] at ag ⊢;exact ag),aC.o⟩
   case measure=>simp[intOf];omega
  ·obtain rfl:j=q.length:=by omega
   have aP: ¬(q.length:Int)<(q.length:Int):=by omega
   go_wp2;go_ret;have aG:q.take q.length=q:=by simp
   have af:=J.o;rw[aG] at af;exact⟨⟨_,rfl,by simpa using af⟩,H.o⟩):P:=h
section
open _root_.Go.Proofs.Tryz renaming func231->Ξa,ntmps231->Ξb,underlying199->Ξf
open _root_.Go.Proofs.YtmgaiiffmheabaaGreatDoor renaming Fl->Ξc,Ν13->Ξd,Ν199->Ξe,Γa->Ξg
def Nl (w:World) (v:Value) (q:List (List Value)) (base:Nat) (row:w.ownsRow base 199 13 v q.length q.flatten) (aa: ∀c∈q,∃i r,c= ι i::r/\r.length=12) (ai: ∀c∈q,∀u∈c,u.oneCell'=ό) (aN:q.length<=8):
  Calls prog 231 #[v,.func (.func 233) #[] #[]] w λe w'=>(∃v',e= .returned v'/\w'.ownsRow w.heap.size 3 1 v' (q.map idN).length ((q.map idN).map (Value.int .i64)))/\ql w w':=Ψ6
end
def LM (w:World):(zeroValue 209).run prog w= .ok (Γs) w:=by kernel_rfl
def zsO:(Builtin.zeroCells (Γs:Value).cells 1).toList=Γs:=by kernel_rfl
def zokO:(Γs:List Value).length=2/\ ∀u∈(Γs:List Value),u.oneCell'=ό:=⟨rfl,by simp[Value.oneCell']⟩
section
open _root_.Go.Proofs.Tryz renaming func271->Ξb,ntmps271->Ξc,underlying209->Ξg,underlying217->Ξi,results271->Ξm
open _root_.Go.Proofs.YtmgaiiffmheabaaGreatDoor renaming Ν2->Ξa,Γs->Ξd,Ν209->Ξe,Ν279->Ξf,Ν217->Ξh,LM->Ξj,zsO->Ξk,zokO->Ξl
def DJ (w:World) (R A room first:Nat) (c:List Value) (T:List (List Value)) (ae af ac ad:Int) (css:List (List Value)) (h:qN 2 279 209 w R A room first (c::T) ae af ac ad css):
  Calls prog 271 #[γ R] w λe w'=>e= .returned (θ c.toArray)/\qN 2 279 209 w' R A room ((first+1)%room) T ae af ac ad (css.set first Γs)/\jt (RgB R A) w w':=Ψ2
end
def Nh (h:qN 2 279 209 w R A room first q H I d G css):
  Calls prog 225 #[γ R] w λe w'=>e= .returned (ι q.length)/\w'=w:=by
 have J:w.cell? ⟨R,2,ϋ⟩=ϊ (ι q.length):=qa h.ring 2 rfl;clear h
 go_enter func225,ntmps225
 go_wp2;go_ret;exact⟨rfl,rfl⟩
section
open _root_.Go.Proofs.Tryz renaming func297->Ξa,ntmps297->Ξb
def Mi (h:qN 2 279 209 w R A room first q H I d G css):
  Calls prog 297 #[γ R] w λe w'=>e= .returned (μ (decide (q.length=room)))/\ ∃k,w'=w.drewN k:=Ψ3
end
def mkO (n:Nat) (N:1<=n) (O:n<=8) (w:World):
  (Instr.makeSlice 217 (ι (n:Int)) (ι (n:Int))).run prog w= .ok (δ (ϊ ⟨w.heap.size,0,ϋ⟩) n n) (w.alloc (.cells (List.replicate n (Γs:List Value)).flatten.toArray 209)):=by
 obtain⟨J,hi,G,H,I⟩:=info_parts (P:=prog) (e:=209) (z:= Γs) (size:=2) (bytes:=32) ξ;have d:=run_make (P:=prog) w 217 209 J (Γs) underlying217 hi G .i64 .i64 n n τ τ (by rw[I];omega) τ;rw[d];simp only[A5,H];rw[Yq _ 2 n rfl ζ];rfl
def Po (m:Int) (n:Nat) (I:m=n) (d:1<=n) (G:n<=8) (w:World):
  Calls prog 100 #[ι m] w λe w'=>e= .returned (.tuple #[γ (w.heap.size+1),ι 0])/\qN 2 279 209 w' (w.heap.size+1) w.heap.size n 0 [] 0 0 0 0 (List.replicate n (Γs:List Value))/\ql w w':=by
 subst I;have J:1<=(n:Int):=by omega
 go_enter func100,ntmps100
 have N:=mkO n d G;go_wp2;refine bodyPost_ret (v:= .tuple #[γ (w.heap.size+1),ι 0]) (by simp[results,results100,go_sem]) rfl ?_;refine⟨rfl, ?_,ρ⟩;exact⟨qC η,qs (qB (qj _ _) rfl) _,τ,η,λc H=>by rw[I4 H];exact zokO,⟨d,G⟩,τ,η,λi hi=>by simp at hi⟩
section
open _root_.Go.Proofs.Tryz renaming func227->Ξb,ntmps227->Ξc,results227->Ξg,underlying209->Ξh
open _root_.Go.Proofs.YtmgaiiffmheabaaGreatDoor renaming Ν2->Ξa,DJ->Ξd,Γs->Ξe,Ν209->Ξf
def Na (w:World) (R A room first:Nat) (c:List Value) (T:List (List Value)) (I O G H:Int) (css:List (List Value)) (h:qN 2 279 209 w R A room first (c::T) I O G H css):
  Calls prog 227 #[γ R] w λe w'=>e= .returned (.tuple #[θ c.toArray,ό])/\(∃co',qN 2 279 209 w' R A room ((first+1)%room) T I co' G H (css.set first Γs))/\jt (RgB R A) w w':=Ψ4
end
section
open _root_.Go.Proofs.Tryz renaming func256->Ξc,ntmps256->Ξd,underlying209->Ξj,results256->Ξk
open _root_.Go.Proofs.YtmgaiiffmheabaaGreatDoor renaming Ν209->Ξa,Γs->Ξb,Mi->Ξe,Ν2->Ξf,Ν279->Ξg,zokO->Ξh,DJ->Ξi
def OW (w:World) (R A room first:Nat) (O:List (List Value)) (aa aj Y ai:Int) (css:List (List Value)) (h:qN 2 279 209 w R A room first O aa aj Y ai css) (x:List Value) (ad:x.length=2/\ ∀u∈x,u.oneCell'=ό) (ab:Bool) (aP:decide (O.length=room)=ab):
  Calls prog 256 #[γ R,θ x.toArray] w λe w'=> ∃(G:List Value) (f:Nat) (q:List (List Value)) (H:Int) (cs:List (List Value)),e= .returned (.tuple #[θ G.toArray,ab,ι 0])/\(∃ci',qN 2 279 209 w' R A room f (q++[x]) ci' aj H ai (cs.set ((f+q.length)%room) x))/\jt (RgB R A) w w'/\Wt Γs first room O css Y ab G f q H cs:=Ψ5
end
def UD (w:World) (R A room first:Nat) (q:List (List Value)) (I H d G:Int) (css:List (List Value)) (h:qN 2 279 209 w R A room first q I H d G css) (ad:q.length<room) (x:List Value) (ac:x.length=2/\ ∀u∈x,u.oneCell'=ό):
  Calls prog 256 #[γ R,θ x.toArray] w λe w'=>e= .returned (.tuple #[Γs,μ ύ,ι 0])/\(∃ci',qN 2 279 209 w' R A room first (q++[x]) ci' H d G (css.set ((first+q.length)%room) x))/\jt (RgB R A) w w':=
 (OW w R A room first q I H d G css h x ac ύ (ϯ τ)).mono λe w' ⟨_,_,_,_,_,aa,ab,a,J,N,O,U,Y⟩=>by
  subst J N O U Y;exact⟨aa,ab,a⟩
def UE (w:World) (R A room first:Nat) (c:List Value) (T:List (List Value)) (O I N G:Int) (css:List (List Value)) (h:qN 2 279 209 w R A room first (c::T) O I N G css) (ab:(c::T).length=room) (x:List Value) (ad:x.length=2/\ ∀u∈x,u.oneCell'=ό):
  Calls prog 256 #[γ R,θ x.toArray] w λe w'=>e= .returned (.tuple #[θ c.toArray,ό,ι 0])/\(∃H d,qN 2 279 209 w' R A room ((first+1)%room) (T++[x]) H I d G ((css.set first Γs).set (((first+1)%room+T.length)%room) x))/\jt (RgB R A) w w':=
 (OW w R A room first (c::T) O I N G css h x ad ό (ϻ ab)).mono λe w' ⟨ae,f,q,d,cs,aa,⟨H,ac⟩,a,J,U,Y⟩=>by
  injection J with J h4
  subst J U Y h4;exact⟨aa,⟨H,d,ac⟩,a⟩
def Af (c:List Value) (h:c.length=2): ∃a0 a1,c=[a0,a1]:=by
 match c,h with
 | [a0,a1],_=>exact⟨a0,a1,rfl⟩
def YC {w':World} {m:Nat} (h:w.ownsRow base e n v m xs) (a:jt S w w') (H: ∀b,base<=b-> ¬S b):w'.ownsRow base e n v m xs:=by
 obtain⟨d,G⟩:=h;refine⟨d, ?_⟩;rcases G with h | ⟨b,cap,cur,e1,hb,hg,rest⟩
 ·exact ϑ h
 ·exact ϕ ⟨b,cap,cur,e1,hb,a.blk hg (H b hb),rest⟩
def um {b:Nat} (h:w.ownsRow base e size v n xs) (d:v.ownBlock=ϊ b):base<=b:=by
 rcases h.2 with ⟨rfl,_⟩ | ⟨g,cap,cur,rfl,G,_⟩
 ·cases d
 ·obtain rfl:g=b:=by injection d
  exact G
def VI (h:w.ownsRow base e size v n xs): ∃oa cap,v= δ oa n cap:=by
 rcases h.2 with ⟨rfl,d⟩ | ⟨g,cap,cur,rfl,_⟩
 ·exact⟨ϋ,0,by rw[d]⟩
 ·exact⟨_,cap,rfl⟩
def IM (w:World) (R A room first:Nat) (q:List (List Value)) (J N H I:Int) (css:List (List Value)) (h:qN 2 279 209 w R A room first q J N H I css):
  Calls prog 238 #[γ R] w λe w'=> ∃v,e= .returned v/\w'.ownsRow w.heap.size 209 2 v q.length q.flatten/\(∃first' cg' css',qN 2 279 209 w' R A room first' [] J N H cg' css')/\jt (RgB R A) w w':=by
 obtain⟨aH,aI,aJ,aK,aL⟩:=info_parts (P:=prog) (e:=209) (z:= Γs) (size:=2) (bytes:=32) ξ;have ar:=κ h;have aP:R<w.heap.size:=qn h.ring;have aO:A<w.heap.size:=qn h.row;have aV:w.cell? ⟨R,2,ϋ⟩=ϊ (ι q.length):=qa h.ring 2 rfl;have aT:(q.length:Int)<=8:=by have:=h.fits;have:=h.pos.2;omega
 have az:=κ h.qall;clear h
 go_enter func238,ntmps238
 go_wp2
 go_loopw [3,8] (λu af wr=> ∃(j f:Nat) (cs:List (List Value)),j<=q.length/\af= ι j/\(∃ao an aj,u= δ ao an aj)/\wr.ownsRow w.heap.size 209 2 u j (q.take j).flatten/\qN 2 279 209 wr R A room f (q.drop j) J N H I cs/\jt (RgB R A) w wr) (λ_ af _=>q.length-(intOf af).toNat)
 case atStart=>exact⟨0,first,css,τ,rfl,⟨_,_,_,rfl⟩,World.ownsRow_nil w _ _ _,ar.o,jt.refl _ _⟩
 case round=>
  obtain⟨j,f,cs,aR,rfl,⟨ao,an,aj,rfl⟩,d,am,al⟩:=hrel;have ag:=κ d;have G:=κ am;have aa:=κ al;clear d am al;by_cases hlt:j<q.length
  ·have ac:q.drop j=q[j]::q.drop (j+1):=D1 hlt;have ae:q.take (j+1)=q.take j++[q[j]]:=by rw[B9,ϖ hlt];rfl
   have Y:=az.o q[j] (ϥ hlt);have aS:(j:Int)<(q.length:Int):=by omega
   obtain⟨c,aB⟩: ∃c,Hid (c=q[j]):=⟨_,κ rfl⟩;rw[<-aB.o] at ac ae Y;have aw:=κ (ac▸G.o);have ax:=κ ae;have aQ:c.toArray.size=2:=by simpa using Y.1
   clear ac ae G;obtain⟨a0,U,rfl⟩:=Af c Y.1
   go_wp2_with (first | (go_at_call 271;(go_call DJ wr R A room f [a0,U] (q.drop (j+1)) J N H I cs aw.o as e w5 ⟨rfl,ak,a5⟩;have au:=κ ak;have ap:=κ a5;have O:=κ (YC ag.o a5 (λb ab e=>by rcases e with e | e<;>omega));have aA:Hid (w.heap.size<=w5.heap.size):=κ (ϙ aa.o.size a5.size);clear ak a5)) | (at_builtin;refine wpList_append_own_at _ rfl (.tmp 10) (.tmp 13) 217 rfl w.heap.size 209 aH (Γs) 2 32 underlying217 aI aJ aK aL rfl ζ _ j (q.take j).flatten rfl (YC O.o (jt.of_more X6) (λb _ e=>e)) ⟨w5.heap.size,0,ϋ⟩ 1 1 [a0,U] rfl rfl (λi u aE=>by have:=xy (cs:=[a0,U]) (t:=209) (qj w5 (.cells #[a0,U] 209)) i u aE;rw[Addr.add_mid];exact this) Y.2 (by unfold maxLen;omega) τ (by have:=aA.o;simp;omega) ?_;intro aX w6 d ad aC aF;have ay:=κ d;have aq:Hid (jt (RgB R A) w w6):=κ (((aa.o.trans ap.o).alc _).grown ad (λb ab=>um O.o ab));have av:Hid (qN 2 279 209 w6 R A room ((f+1)%room) (q.drop (j+1)) J N H I (cs.set f Γs)):=κ ((au.o.more X6).away (jt.of_grown ad) (λe=>by have:=um O.o e;omega) (λe=>by have:=um O.o e;omega));obtain⟨aU,aM,rfl⟩:=VI d;clear d ad aC aF))
   go_roundw
   case rel=>exact⟨j+1,(f+1)%room,_,τ,by go_num,⟨_,_,_,rfl⟩,by rw[ax.o,J7];simpa using ay.o,av.o,aq.o⟩
   case measure=>simp[intOf];omega
  ·obtain rfl:j=q.length:=by omega
   have aW:wr.cell? ⟨R,7,ϋ⟩=ϊ (ι I):=qa G.o.ring 7 rfl;have aN:wr.frozen? ⟨R,7,ϋ⟩=ύ:=yw G.o.ring 7;go_wp2;go_ret;have aG:q.drop q.length=[]:=by simp
   have aD:q.take q.length=q:=by simp
   have ai:=G.o;have ah:=ag.o;rw[aG] at ai;rw[aD] at ah;exact⟨_,rfl,YC ah ((jt.refl (λb=>b=R) _).set rfl _) (λb ab e=>by omega),⟨_,_,_,ai.drained _⟩,aa.o.set (ϑ rfl) _⟩
def Fk (i:Int) (c:List Value) (d:c.length=1) (w:World):Calls prog 239 #[θ (ι i::c).toArray] w λe w'=>e= .returned (ι i)/\ql w w':=by
 obtain⟨a0,G,h⟩:=Af (ι i::c) (by simp[d]);obtain⟨rfl,rfl⟩:a0= ι i/\c=[G]:=by
  injection h with h1 h2
  exact⟨h1.symm,h2⟩
 clear h d
 go_enter func239,ntmps239
 go_wp2;go_ret;exact⟨rfl,ρ⟩
section
open _root_.Go.Proofs.Tryz renaming func237->Ξa,ntmps237->Ξb,underlying209->Ξf
open _root_.Go.Proofs.YtmgaiiffmheabaaGreatDoor renaming Fk->Ξc,Ν2->Ξd,Ν209->Ξe,Γs->Ξg
def Nk (w:World) (v:Value) (q:List (List Value)) (base:Nat) (row:w.ownsRow base 209 2 v q.length q.flatten) (aa: ∀c∈q,∃i r,c= ι i::r/\r.length=1) (ai: ∀c∈q,∀u∈c,u.oneCell'=ό) (aN:q.length<=8):
  Calls prog 237 #[v,.func (.func 239) #[] #[]] w λe w'=>(∃v',e= .returned v'/\w'.ownsRow w.heap.size 3 1 v' (q.map idN).length ((q.map idN).map (Value.int .i64)))/\ql w w':=Ψ6
end
def LO (w:World):(zeroValue 204).run prog w= .ok (Γb) w:=by kernel_rfl
def zsC:(Builtin.zeroCells (Γb:Value).cells 1).toList=Γb:=by kernel_rfl
def zokC:(Γb:List Value).length=14/\ ∀u∈(Γb:List Value),u.oneCell'=ό:=⟨rfl,by simp[Value.oneCell']⟩
section
open _root_.Go.Proofs.Tryz renaming func278->Ξb,ntmps278->Ξc,underlying204->Ξg,underlying275->Ξi,results278->Ξm
open _root_.Go.Proofs.YtmgaiiffmheabaaGreatDoor renaming Ν14->Ξa,Γb->Ξd,Ν204->Ξe,Ν277->Ξf,Ν275->Ξh,LO->Ξj,zsC->Ξk,zokC->Ξl
def F6 (w:World) (R A room first:Nat) (c:List Value) (T:List (List Value)) (ae af ac ad:Int) (css:List (List Value)) (h:qN 14 277 204 w R A room first (c::T) ae af ac ad css):
  Calls prog 278 #[γ R] w λe w'=>e= .returned (θ c.toArray)/\qN 14 277 204 w' R A room ((first+1)%room) T ae af ac ad (css.set first Γb)/\jt (RgB R A) w w':=Ψ2
end
def Nj (h:qN 14 277 204 w R A room first q H I d G css):
  Calls prog 224 #[γ R] w λe w'=>e= .returned (ι q.length)/\w'=w:=by
 have J:w.cell? ⟨R,2,ϋ⟩=ϊ (ι q.length):=qa h.ring 2 rfl;clear h
 go_enter func224,ntmps224
 go_wp2;go_ret;exact⟨rfl,rfl⟩
section
open _root_.Go.Proofs.Tryz renaming func223->Ξa,ntmps223->Ξb
def Hf (h:qN 14 277 204 w R A room first q H I d G css):
  Calls prog 223 #[γ R] w λe w'=>e= .returned (μ (decide (q.length=room)))/\ ∃k,w'=w.drewN k:=Ψ3
end
def mkC (n:Nat) (N:1<=n) (O:n<=8) (w:World):
  (Instr.makeSlice 275 (ι (n:Int)) (ι (n:Int))).run prog w= .ok (δ (ϊ ⟨w.heap.size,0,ϋ⟩) n n) (w.alloc (.cells (List.replicate n (Γb:List Value)).flatten.toArray 204)):=by
 obtain⟨J,hi,G,H,I⟩:=info_parts (P:=prog) (e:=204) (z:= Γb) (size:=14) (bytes:=128) ξ;have d:=run_make (P:=prog) w 275 204 J (Γb) underlying275 hi G .i64 .i64 n n τ τ (by rw[I];omega) τ;rw[d];simp only[A5,H];rw[Yq _ 14 n rfl ζ];rfl
def Pq (m:Int) (n:Nat) (I:m=n) (d:1<=n) (G:n<=8) (w:World):
  Calls prog 99 #[ι m] w λe w'=>e= .returned (.tuple #[γ (w.heap.size+1),ι 0])/\qN 14 277 204 w' (w.heap.size+1) w.heap.size n 0 [] 0 0 0 0 (List.replicate n (Γb:List Value))/\ql w w':=by
 subst I;have J:1<=(n:Int):=by omega
 go_enter func99,ntmps99
 have N:=mkC n d G;go_wp2;refine bodyPost_ret (v:= .tuple #[γ (w.heap.size+1),ι 0]) (by simp[results,results99,go_sem]) rfl ?_;refine⟨rfl, ?_,ρ⟩;exact⟨qC η,qs (qB (qj _ _) rfl) _,τ,η,λc H=>by rw[I4 H];exact zokC,⟨d,G⟩,τ,η,λi hi=>by simp at hi⟩
section
open _root_.Go.Proofs.Tryz renaming func254->Ξb,ntmps254->Ξc,results254->Ξg,underlying204->Ξh
open _root_.Go.Proofs.YtmgaiiffmheabaaGreatDoor renaming Ν14->Ξa,F6->Ξd,Γb->Ξe,Ν204->Ξf
def Nc (w:World) (R A room first:Nat) (c:List Value) (T:List (List Value)) (I O G H:Int) (css:List (List Value)) (h:qN 14 277 204 w R A room first (c::T) I O G H css):
  Calls prog 254 #[γ R] w λe w'=>e= .returned (.tuple #[θ c.toArray,ό])/\(∃co',qN 14 277 204 w' R A room ((first+1)%room) T I co' G H (css.set first Γb))/\jt (RgB R A) w w':=Ψ4
end
def UH (w:World) (R A room first:Nat) (q:List (List Value)) (U ae ac ad:Int) (css:List (List Value)) (h:qN 14 277 204 w R A room first q U ae ac ad css) (aG:q.length<room) (x:List Value) (N:x.length=14/\ ∀u∈x,u.oneCell'=ό):
  Calls prog 253 #[γ R,θ x.toArray] w λe w'=>e= .returned (.tuple #[Γb,μ ύ,ι 0])/\(∃ci',qN 14 277 204 w' R A room first (q++[x]) ci' ae ac ad (css.set ((first+q.length)%room) x))/\jt (RgB R A) w w':=by
 have ao:=κ h;have aM:R<w.heap.size:=qn h.ring;have aL:A<w.heap.size:=qn h.row;have aU:(((w.alloc (.cells x.toArray 204)).alloc (.cells Γb 204)).alloc (.cells Γb 204)).cell? ⟨R,3,ϋ⟩=ϊ (μ ύ):=qa (qs (qs (qs h.ring _) _) _) 3 rfl;have aF:decide (q.length=room)=ύ:=by simp;omega
 clear h
 go_enter func253,ntmps253
 go_wp2_with (first | (go_at_call 223;((with_reducible refine(Hf (ao.o.more (((ql.refl w).al _).al _ |>.al _))).mono ?_);rintro e ab ⟨rfl,aS,Y⟩;rw[aF];have ag:Hid (ql w ab):=κ (by rw[Y];exact(((ql.refl w).al _).al _ |>.al _).dr _);have ar:Hid (ab.heap[w.heap.size]? =ϊ (.cells x.toArray 204 (0,0))):=κ (by rw[Y];exact qb (qs (qs (qj _ _) _) _) _);have ai:Hid (ab.heap[w.heap.size+1]? =ϊ (.cells Γb 204 (0,0))):=κ (by rw[Y];exact qb (qs (qC η) _) _);have am:Hid (ab.heap[w.heap.size+2]? =ϊ (.cells Γb 204 (0,0))):=κ (by rw[Y];exact qb (qC η) _);clear Y)))
 obtain⟨G,H⟩: ∃G,G=ab:=⟨_,rfl⟩;have d:Hid (qN 14 277 204 G R A room first q U ae ac ad css):=κ (by rw[H];exact ao.o.more ag.o);have ah:Hid (jt (RgB R A) w G):=κ (by rw[H];exact jt.of_more ag.o);have au:Hid (G.heap[w.heap.size]? =ϊ (.cells x.toArray 204 (0,0))):=κ (by rw[H];exact ar.o);have aj:Hid (G.heap[w.heap.size+1]? =ϊ (.cells Γb 204 (0,0))):=κ (by rw[H];exact ai.o);have an:Hid (G.heap[w.heap.size+2]? =ϊ (.cells Γb 204 (0,0))):=κ (by rw[H];exact am.o);have aH:q.length<room:=aG;rw[<-H];clear H ag ar ai am;obtain⟨f,aq⟩: ∃f,Hid (f=first):=⟨_,κ rfl⟩;obtain⟨cs,ap⟩: ∃cs,Hid (cs=css):=⟨_,κ rfl⟩;rw[<-aq.o,<-ap.o] at d;have az: ∀x:qt G,x.w'.cell? ⟨R,0,ϋ⟩=ϊ (δ (ϊ ⟨A,0,ϋ⟩) room room):=λx=>x.cell (qn d.o.ring) (qa d.o.ring 0 rfl)
 have aA: ∀x:qt G,x.w'.cell? ⟨R,1,ϋ⟩=ϊ (ι f):=λx=>x.cell (qn d.o.ring) (qa d.o.ring 1 rfl)
 have aB: ∀x:qt G,x.w'.cell? ⟨R,2,ϋ⟩=ϊ (ι q.length):=λx=>x.cell (qn d.o.ring) (qa d.o.ring 2 rfl)
 have aP:((f:Int)+(q.length:Int))%(room:Int)=(((f+q.length)%room:Nat):Int):=by rw[J0];rfl
 have aE:(f+q.length)%room<room:=I2 _ τ;have hi:(((f+q.length)%room:Nat):Int)<(room:Int):=by omega
 have aQ:=d.o.pos;have aN:=d.o.fst;have aO:(f:Int)<=8:=by omega
 have aR:(q.length:Int)<=8:=by omega
 generalize aD:(f+q.length)%room=I at *;refine Qn G 21 22 [21] ?_
 refine Ny ?_
 refine jh rfl rfl (qk ρ) 204 (.tmp 3) rfl w.heap.size 0 rfl x _ (λw' aI=>by obtain⟨y,rfl⟩:=aI;exact xy (qq y.h au.o)) underlying204 rfl (by rw[N.1];kernel_rfl) ?_;intro K aa;go_simp;refine aa _ ?_;clear aa K
 refine Qq1 ?_
 refine zY rfl rfl ζ ?_;intro K aa;refine zF 204 (.tmp 48) (.tmp 47) rfl A (I* 14) 204 cs.flatten.toArray x rfl rfl (qb d.o.row 1) (by rw[d.o.size,N.1];have:=A0 14 (show I+1<=room by omega);omega) (by rw[N.1];kernel_rfl) N.2 ?_;refine⟨trivial, ?_⟩;go_simp;refine aa _ _ ?_;clear aa K az aA aB;refine qA ?_;obtain⟨W6,J⟩:=ν ((G.drewN 1).setRow A (xQ cs.flatten (I* 14) x).toArray);have ax:Hid (jt (RgB R A) w W6):=κ (by rw[<-J];exact(ah.o.drewN 1).row (ϕ rfl) _);have O:Hid (W6.heap[R]? =ϊ (.cells (jV A room f q.length U ae ac ad) 277 (0,0))):=κ (by rw[<-J];exact qS (qb d.o.ring 1) _ d.o.ne);have aC:Hid (W6.heap[A]? =ϊ (.cells (cs.set I x).flatten.toArray 204 (0,0))):=κ (by rw[<-J,<-JO cs I _ d.o.cl N.1 (by rw[d.o.len];exact aE)];exact jY (qb d.o.row 1) _);have ak:Hid (W6.heap[w.heap.size+1]? =ϊ (.cells Γb 204 (0,0))):=κ (by rw[<-J];exact qS (qb aj.o 1) _ τ);have ay:Hid (W6.heap[w.heap.size+2]? =ϊ (.cells Γb 204 (0,0))):=κ (by rw[<-J];exact qS (qb an.o 1) _ τ);rw[J];clear J ah au aj an;have av:w.heap.size+2≠R:=by omega
 have af:w.heap.size+1≠R:=by omega
 have aT:W6.cell? ⟨R,2,ϋ⟩=ϊ (ι q.length):=qa O.o 2 rfl;have aJ:W6.frozen? ⟨R,2,ϋ⟩=ύ:=yw O.o 2;have aV:W6.cell? ⟨R,4,ϋ⟩=ϊ (ι U):=qa O.o 4 rfl;have aK:W6.frozen? ⟨R,4,ϋ⟩=ύ:=yw O.o 4
 go_wp2_with (first | (refine yL (.load 204 (.tmp 7)) rfl ?_;refine vO rfl 204 (.tmp 7) rfl (w.heap.size+2) 204 Γb _ (qo (qo ay.o ⟨R,2,ϋ⟩ _ av) ⟨R,4,ϋ⟩ _ av) rfl underlying204 rfl ξ ?_) | (refine yL (.store 204 (.tmp 4) (.tmp 65)) rfl ?_;refine xW rfl 204 (.tmp 4) (.tmp 65) rfl (w.heap.size+1) 204 _ Γb (qo (qo ak.o ⟨R,2,ϋ⟩ _ af) ⟨R,4,ϋ⟩ _ af) rfl rfl ξ rfl (all_oneCell_toArray zokC.2) ?_))
 have aw:R≠A:=d.o.ne;refine bodyPost_ret (v:= .tuple #[Γb,μ ύ,ι 0]) (KW results253 _ _ (w.heap.size+1) 204 Γb _ _ _ rfl rfl rfl (jY (qo (qo ak.o ⟨R,2,ϋ⟩ _ af) ⟨R,4,ϋ⟩ _ af) _) underlying204 rfl ξ) rfl ?_;subst aD;obtain rfl:=aq.o;obtain rfl:=ap.o;refine⟨rfl,⟨wrap64 (U+1),d.o.put aH N ?_ ?_⟩,((ax.o.set (ϑ rfl) _).set (ϑ rfl) _).rowNew τ _⟩
 ·exact qS (qB (qp (qp O.o 2 _) 4 _) rfl) _ τ
 ·exact qS (qo (qo aC.o _ _ (C4 aw)) _ _ (C4 aw)) _ τ
end Go.Proofs.YtmgaiiffmheabaaGreatDoor
