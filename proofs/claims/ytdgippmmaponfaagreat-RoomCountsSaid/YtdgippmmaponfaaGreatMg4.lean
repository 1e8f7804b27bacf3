/- Contracts of the functions that the law reaches, and plain laws; no conditions but those written at each. -/
import Derived.Test.YtdgippmmaponfaaGreatMg3
namespace Go.Proofs.YtdgippmmaponfaaGreat
open Go.Value renaming bool->μ,slice->δ,pointer->π,agg->θ
open Go.IntKind renaming i64->ι,u8->υ,u16->φ,u32->ω,i32->χ,u64->ψ
open _root_.Go.Proofs.Tryz
set_option linter.unusedSimpArgs false
set_option maxHeartbeats 8000000
set_option linter.unusedVariables false
open Go.RowKit
set_option maxRecDepth 100000
theorem LN (w:World):(zeroValue 218).run prog w= .ok (Γa) w:=by kernel_rfl
theorem zsI:(Builtin.zeroCells (Γa:Value).cells 1).toList=Γa:=by kernel_rfl
theorem zokI:(Γa:List Value).length=13/\ ∀u∈(Γa:List Value),u.oneCell'=true:=⟨rfl,by simp[Value.oneCell']⟩
theorem Ψ2 {P:Prop} (h:P:=by
 have aj:=κ h;have af:=h.ofHead;have U:c.toArray.size=(Ξa:Nat):=by simpa using af.1
 have au:=h.fst;have aS:(first:Int)<(room:Int):=by have:=h.fst;omega
 have aJ:0<=(first:Int):=by omega
 have aN:=h.pos.1;have aO:=h.pos.2;have aT:((c::T).length:Int)<=8:=by have:=h.fits;have:=h.pos.2;omega
 clear h
 go_enter Ξb,Ξc
 go_wp2;obtain⟨W1,ah⟩:=ν (w.alloc (.cells Ξd (Ξe:Nat)));have ay:Hid (qa w W1):=κ (by rw[<-ah];exact qa.alloc _ _);have J:Hid (qN (Ξa:Nat) (Ξf:Nat) (Ξe:Nat) W1 R A room first (c::T) ad ab ae aa css):=κ (aj.o.more ay.o);have ai:Hid (W1.heap[w.heap.size]? =some (.cells Ξd (Ξe:Nat) (0,0))):=κ (by rw[<-ah];exact qj w _);have aK:R<w.heap.size:=qn aj.o.ring;have aL:A<w.heap.size:=qn aj.o.row;rw[ah];have aq:w.heap.size<W1.heap.size:=qn ai.o;generalize aP:w.heap.size=rc at *;clear ah;have ac: ∀x:qt W1,x.w'.cell? ⟨R,0,none⟩=some (δ (some ⟨A,0,none⟩) room room):=λx=>x.cell (qn J.o.ring) (qb J.o.ring 0 rfl)
 have Y: ∀x:qt W1,x.w'.cell? ⟨R,1,none⟩=some (ι first):=λx=>x.cell (qn J.o.ring) (qb J.o.ring 1 rfl)
 refine Qn W1 11 12 [10,11] ?_
 refine Qq ?_
 have aB: ∀x:qt W1,x.w'.rangeAt A (first* (Ξa:Nat)) c:=λx=>by have:=(J.o.more x.h).range au;rw[J.o.head] at this;exact this
 refine jh rfl rfl (qk ρ) (Ξe:Nat) (.tmp 12) rfl A (first* (Ξa:Nat)) rfl c _ (λw' aI=>by obtain⟨x,rfl⟩:=aI;exact aB x) Ξg rfl (by rw[af.1];kernel_rfl) ?_;intro K d;go_simp;refine d _ ?_;clear d K
 (refine Ql ?_;intro K d)
 refine⟨qk ρ,d _ _ ?_⟩;clear d K;refine zY rfl rfl ζ ?_;intro K d;refine jr (Ξe:Nat) (.tmp 3) (.tmp 13) rfl W1.heap.size (Ξe:Nat) _ c.toArray rfl rfl (qj _ _) (by rw[U];kernel_rfl) (by rw[U];rfl) (all_oneCell_toArray af.2) ?_;refine⟨trivial, ?_⟩;go_simp;refine d _ _ ?_;clear d K;refine qA ?_;obtain⟨W2,ag⟩:=ν (((W1.drewN 1).alloc (.cells Ξd (Ξe:Nat))).setRow W1.heap.size c.toArray);have az:Hid (W2.heap[W1.heap.size]? =some (.cells c.toArray (Ξe:Nat) (0,0))):=κ (by rw[<-ag];exact jY (qj _ _) _);have ak:Hid (qa W1 W2):=κ (by rw[<-ag];exact(xb _ _ _).to_more (((qa.refl W1).dr 1).al _) (λk e=>by rw[e];exact Nat.le_refl _));have G:=κ (J.o.more ak.o);have aw:=κ (qc ak.o ai.o);have aV:R<W1.heap.size:=Nat.lt_of_lt_of_le τ (Nat.le_of_lt aq);have aU:A<W1.heap.size:=Nat.lt_of_lt_of_le τ (Nat.le_of_lt aq);rw[ag];generalize W1.heap.size=xc at *;clear ag ac Y aB ai J
 go_wp2_with fail
 have ac: ∀x:qz (λb=>b=A) W2,x.w'.cell? ⟨R,0,none⟩=some (δ (some ⟨A,0,none⟩) room room):=λx=>x.cell (qn G.o.ring) G.o.ne (qb G.o.ring 0 rfl)
 have Y: ∀x:qz (λb=>b=A) W2,x.w'.cell? ⟨R,1,none⟩=some (ι first):=λx=>x.cell (qn G.o.ring) G.o.ne (qb G.o.ring 1 rfl)
 refine QN (λb=>b=A) W2 15 15 [14] ?_
 refine Qs ?_
 refine jR rfl rfl ?_;intro K d;have ax:=kW (P:=prog) (W2.drewN 1) (Ξh:Nat) 0 (Ξe:Nat) _ Ξd Ξi Ξj Ξk A (first* (Ξa:Nat)) (room-first) css.flatten.toArray (qr G.o.row 1) (by rw[G.o.size];have:=Nat.mul_le_mul_right (Ξa:Nat) (show first+1<=room by omega);simp;omega) Ξl.2;simp only[List.toList_toArray] at ax;unfold jn;go_simp;refine⟨qi (((qg.refl (λb=>b=A) W2).drewN 1).row (g:=A) rfl _),d _ _ ?_⟩;clear d K ax ac Y;refine qA ?_;obtain⟨H,M⟩:=ν ((W2.drewN 1).setRow A (xQ css.flatten (first* (Ξa:Nat)) Ξd).toArray);have ap:Hid (qg (RgB R A) W2 H):=κ (by rw[<-M];exact((qg.refl _ _).drewN 1).row (Or.inr rfl) _);have I:Hid (H.heap[R]? =some (.cells (jV A room first (c::T).length ad ab ae aa) (Ξf:Nat) (0,0))):=κ (by rw[<-M];exact qS (qr G.o.ring 1) _ G.o.ne);have an:Hid (H.heap[A]? =some (.cells (css.set first Ξd).flatten.toArray (Ξe:Nat) (0,0))):=κ (by rw[<-M,<-JO css first _ G.o.cl Ξl.1 (by rw[G.o.len];exact au)];exact jY (qr G.o.row 1) _);have aA:Hid (H.heap[xc]? =some (.cells c.toArray (Ξe:Nat) (0,0))):=κ (by rw[<-M];exact qS (qr az.o 1) _ τ);have ao:Hid (H.heap[rc]? =some (.cells Ξd (Ξe:Nat) (0,0))):=κ (by rw[<-M];exact qS (qr aw.o 1) _ τ);rw[M];clear M az aw
 go_wp2_with fail
 have ac: ∀x:qt H,x.w'.cell? ⟨R,0,none⟩=some (δ (some ⟨A,0,none⟩) room room):=λx=>x.cell (qn I.o) (qb I.o 0 rfl)
 have Y: ∀x:qt H,x.w'.cell? ⟨R,1,none⟩=some (ι first):=λx=>x.cell (qn I.o) (qb I.o 1 rfl)
 have aD:H.frozen? ⟨R,1,none⟩=false:=qd I.o 1;have aE:H.cell? ⟨R,1,none⟩=some (ι first):=qb I.o 1 rfl;refine Qn H 14 15 [12,14] ?_
 refine Qq ?_
 (refine Ql ?_;intro K d)
 refine⟨qk ρ,d _ _ ?_⟩;clear d K
 refine Qq ?_
 (refine Qe ?_;intro K d)
 refine d _ _ ?_;clear d K ac Y;refine qA ?_;have ar:((first:Int)+1)%(room:Int)=(((first+1)%room:Nat):Int):=by rw[Int.natCast_emod];rfl
 rw[ar];obtain⟨O,N⟩:=ν ((H.drewN 1).setCell ⟨R,1,none⟩ (ι ((first+1)%room:Nat)));have aG:Hid (qg (RgB R A) W2 O):=κ (by rw[<-N];exact(ap.o.drewN 1).set (Or.inl rfl) _);have am:Hid (O.heap[R]? =some (.cells (jV A room ((first+1)%room) (c::T).length ad ab ae aa) (Ξf:Nat) (0,0))):=κ (by rw[<-N];exact qB (qp (qr I.o 1) 1 _) rfl);have aF:Hid (O.heap[A]? =some (.cells (css.set first Ξd).flatten.toArray (Ξe:Nat) (0,0))):=κ (by rw[<-N];exact qo (qr an.o 1) _ _ (Ne.symm G.o.ne));have aH:Hid (O.heap[xc]? =some (.cells c.toArray (Ξe:Nat) (0,0))):=κ (by rw[<-N];exact qo (qr aA.o 1) _ _ (by show xc≠R;omega));have av:Hid (O.heap[rc]? =some (.cells Ξd (Ξe:Nat) (0,0))):=κ (by rw[<-N];exact qo (qr ao.o 1) _ _ (by show rc≠R;omega));rw[N];clear N ap I an aA ao aD aE ar;have aQ:O.cell? ⟨R,2,none⟩=some (ι (c::T).length):=qb am.o 2 rfl;have aR:O.frozen? ⟨R,2,none⟩=false:=qd am.o 2;have aM:(((c::T).length:Nat):Int)-1=(T.length:Int):=by simp
 go_wp2_with (first | (refine vO rfl (Ξe:Nat) (.tmp 3) rfl xc (Ξe:Nat) c.toArray _ (qo aH.o _ _ (by show xc≠R;omega)) rfl Ξg rfl (by rw[U];kernel_rfl) ?_) | (refine xW rfl (Ξe:Nat) (.tmp 2) (.tmp 49) rfl rc (Ξe:Nat) _ c.toArray (qo av.o _ _ (by show rc≠R;omega)) rfl rfl (by rw[U];kernel_rfl) (by rw[U];rfl) (all_oneCell_toArray af.2) ?_))
 have aC:R≠A:=G.o.ne;refine bodyPost_ret (v:= θ c.toArray) (results_cell_row Ξm _ _ rc (Ξe:Nat) c.toArray (0,0) _ rfl (jY (qo av.o _ _ (by show rc≠R;omega)) _) Ξg rfl (by rw[U];kernel_rfl)) rfl ?_;refine⟨rfl, ?_, ?_⟩
 ·exact G.o.took Ξl (qS (qB (qp am.o 2 _) (by simp[jV])) _ τ) (qS (qo aF.o _ _ (Ne.symm aC)) _ τ)
 ·exact(((qg.of_more (ay.o.trans ak.o)).trans aG.o).set (Or.inl rfl) _).rowNew τ _):P:=h
section
open _root_.Go.Proofs.Tryz renaming func210->Ξb,ntmps210->Ξc,underlying218->Ξg,underlying287->Ξi,results210->Ξm
open _root_.Go.Proofs.YtdgippmmaponfaaGreat renaming Ν13->Ξa,Γa->Ξd,Ν218->Ξe,Ν289->Ξf,Ν287->Ξh,LN->Ξj,zsI->Ξk,zokI->Ξl
theorem DK (w:World) (R A room first:Nat) (c:List Value) (T:List (List Value)) (ad ab ae aa:Int) (css:List (List Value)) (h:qN 13 289 218 w R A room first (c::T) ad ab ae aa css):
  Calls prog 210 #[γ R] w λe w'=>e= .returned (θ c.toArray)/\qN 13 289 218 w' R A room ((first+1)%room) T ad ab ae aa (css.set first Γa)/\qg (RgB R A) w w':=Ψ2
end
theorem Ni {w:World} {R A room first:Nat} {q:List (List Value)} {H G I d:Int} {css:List (List Value)} (h:qN 13 289 218 w R A room first q H G I d css):
  Calls prog 102 #[γ R] w λe w'=>e= .returned (ι q.length)/\w'=w:=by
 have J:w.cell? ⟨R,2,none⟩=some (ι q.length):=qb h.ring 2 rfl;clear h
 go_enter func102,ntmps102
 go_wp2;go_ret;exact⟨rfl,rfl⟩
theorem Ψ3 {P:Prop} (h:P:=by
 have O:w.cell? ⟨R,0,none⟩=some (δ (some ⟨A,0,none⟩) room room):=qb h.ring 0 rfl;have N:w.cell? ⟨R,2,none⟩=some (ι q.length):=qb h.ring 2 rfl;have M:((q.length:Int)==(room:Int))=decide (q.length=room):=by by_cases e:q.length=room<;>simp[e];omega
 clear h
 go_enter Ξa,Ξb
 go_wp2;refine wp_region_quiet_lit ξ ξ ?_
 repeat (go_big_quiet_step (fail))
 refine wpQuiet_nil ?_;intro _ G;obtain⟨nq,rfl⟩:=G;go_wp2;go_ret;exact⟨rfl,nq,rfl⟩):P:=h
section
open _root_.Go.Proofs.Tryz renaming func227->Ξa,ntmps227->Ξb
theorem Mj {w:World} {R A room first:Nat} {q:List (List Value)} {I H J d:Int} {css:List (List Value)} (h:qN 13 289 218 w R A room first q I H J d css):
  Calls prog 227 #[γ R] w λe w'=>e= .returned (μ (decide (q.length=room)))/\ ∃k,w'=w.drewN k:=Ψ3
end
theorem mkI (n:Nat) (N:1<=n) (M:n<=8) (w:World):
  (Instr.makeSlice 287 (ι (n:Int)) (ι (n:Int))).run prog w= .ok (δ (some ⟨w.heap.size,0,none⟩) n n) (w.alloc (.cells (List.replicate n (Γa:List Value)).flatten.toArray 218)):=by
 obtain⟨G,hi,I,J,d⟩:=info_parts (P:=prog) (e:=218) (z:= Γa) (size:=13) (bytes:=120) ξ;have H:=run_make (P:=prog) w 287 218 G (Γa) underlying287 hi I .i64 .i64 n n τ τ (by rw[d];omega) τ;rw[H];simp only[Int.toNat_natCast,J];rw[Yq _ 13 n rfl ζ];rfl
theorem Pp (m:Int) (n:Nat) (H:m=n) (d:1<=n) (G:n<=8) (w:World):
  Calls prog 112 #[ι m] w λe w'=>e= .returned (.tuple #[γ (w.heap.size+1),ι 0])/\qN 13 289 218 w' (w.heap.size+1) w.heap.size n 0 [] 0 0 0 0 (List.replicate n (Γa:List Value))/\qa w w':=by
 subst H;have J:1<=(n:Int):=by omega
 go_enter func112,ntmps112
 have M:=mkI n d G;go_wp2;refine bodyPost_ret (v:= .tuple #[γ (w.heap.size+1),ι 0]) (by simp[results,results112,go_sem]) rfl ?_;refine⟨rfl, ?_,ρ⟩;exact⟨qC η,qs (qB (qj _ _) rfl) _,τ,η,λc I=>by rw[List.eq_of_mem_replicate I];exact zokI,⟨d,G⟩,τ,η,λi hi=>by simp at hi⟩
theorem Ψ4 {P:Prop} (h:P:=by
 have d:=κ h;have O:=h.ofHead;have H:c.toArray.size=(Ξa:Nat):=by simpa using O.1
 have ag:(((c::T).length:Int)==0)=false:=by simp;omega
 clear h;have ab:R<w.heap.size:=qn d.o.ring;have ad:A<w.heap.size:=qn d.o.row;have af:w.cell? ⟨R,2,none⟩=some (ι (c::T).length):=qb d.o.ring 2 rfl;have ae:w.cell? ⟨R,5,none⟩=some (ι M):=qb d.o.ring 5 rfl;have ac:w.frozen? ⟨R,5,none⟩=false:=qd d.o.ring 5
 go_enter Ξb,Ξc
 go_wp2_with (first | (((with_reducible refine(Ξd _ R A room first c T I _ J G css ((d.o.popped _).more (qa.alloc _ _))).mono ?_);rintro e w5 ⟨rfl,N,a5⟩;have Y:=κ N;have aa:Hid (qg (RgB R A) w w5):=κ ((((qg.refl _ _).set (Or.inl rfl) _).alc _).trans a5);have U:Hid (w5.heap[w.heap.size]? =some (.cells Ξe (Ξf:Nat) (0,0))):=κ (a5.blk (qC η) (by rintro(e | e)<;>omega));clear N a5)) | (refine xW rfl (Ξf:Nat) (.tmp 2) (.tmp 21) rfl w.heap.size (Ξf:Nat) _ c.toArray U.o rfl rfl (by rw[H];kernel_rfl) (by rw[H];rfl) (all_oneCell_toArray O.2) ?_))
 refine bodyPost_ret (v:= .tuple #[θ c.toArray,true]) (yo Ξg _ _ w.heap.size (Ξf:Nat) c.toArray _ _ rfl rfl (jY U.o _) Ξh rfl (by rw[H];kernel_rfl)) rfl ?_;exact⟨rfl,⟨_,Y.o.away (xb _ _ _) (λe:R=w.heap.size=>by omega) (λe:A=w.heap.size=>by omega)⟩,aa.o.rowNew (Nat.le_refl _) _⟩):P:=h
section
open _root_.Go.Proofs.Tryz renaming func183->Ξb,ntmps183->Ξc,results183->Ξg,underlying218->Ξh
open _root_.Go.Proofs.YtdgippmmaponfaaGreat renaming Ν13->Ξa,DK->Ξd,Γa->Ξe,Ν218->Ξf
theorem Nb (w:World) (R A room first:Nat) (c:List Value) (T:List (List Value)) (I M J G:Int) (css:List (List Value)) (h:qN 13 289 218 w R A room first (c::T) I M J G css):
  Calls prog 183 #[γ R] w λe w'=>e= .returned (.tuple #[θ c.toArray,true])/\(∃co',qN 13 289 218 w' R A room ((first+1)%room) T I co' J G (css.set first Γa))/\qg (RgB R A) w w':=Ψ4
end
theorem Ψ5 {P:Prop} (h:P:=by
 have Y:=κ h;have bd:R<w.heap.size:=qn h.ring;have be:A<w.heap.size:=qn h.row;have bg:(((w.alloc (.cells x.toArray (Ξa:Nat))).alloc (.cells Ξb (Ξa:Nat))).alloc (.cells Ξb (Ξa:Nat))).cell? ⟨R,3,none⟩=some (μ false):=qb (qs (qs (qs h.ring _) _) _) 3 rfl;have au:=κ aL;clear h aL
 go_enter Ξc,Ξd
 go_upto_if 16 with (first | (((with_reducible refine(Ξe (Y.o.more (((qa.refl w).al _).al _ |>.al _))).mono ?_);rintro e am ⟨rfl,bn,an⟩;rw[au.o];have af:Hid (qa w am):=κ (by rw[an];exact(((qa.refl w).al _).al _ |>.al _).dr _);have aE:Hid (am.heap[w.heap.size]? =some (.cells x.toArray (Ξa:Nat) (0,0))):=κ (by rw[an];exact qr (qs (qs (qj _ _) _) _) _);have av:Hid (am.heap[w.heap.size+1]? =some (.cells Ξb (Ξa:Nat) (0,0))):=κ (by rw[an];exact qr (qs (qC η) _) _);have aB:Hid (am.heap[w.heap.size+2]? =some (.cells Ξb (Ξa:Nat) (0,0))):=κ (by rw[an];exact qr (qC η) _);clear an)))
 go_cut [] from 17 to 67 (λah=> ∃(G:List Value) (f:Nat) (q:List (List Value)) (M:Int) (cs:List (List Value)),qN (Ξf:Nat) (Ξg:Nat) (Ξa:Nat) ah R A room f q ac aj M ag cs/\qg (RgB R A) w ah/\ah.heap[w.heap.size]? =some (.cells x.toArray (Ξa:Nat) (0,0))/\ah.heap[w.heap.size+1]? =some (.cells Ξb (Ξa:Nat) (0,0))/\ah.heap[w.heap.size+2]? =some (.cells G.toArray (Ξa:Nat) (0,0))/\q.length<room/\(G.length=(Ξf:Nat)/\ ∀u∈G,u.oneCell'=true)/\Wt Ξb first room H css O ab G f q M cs)
 case first=>
  cases ab with
  | false=>
   have aw:H.length<room:=by have:=Y.o.fits;have:=of_decide_eq_false au.o;omega
   go_wp2;go_meet;exact⟨Ξb,first,H,O,css,Y.o.more af.o,qg.of_more af.o,aE.o,av.o,aB.o,aw,Ξh,rfl,rfl,rfl,rfl,rfl⟩
  | true=>
   cases H with
   | nil=>exact absurd (of_decide_eq_true au.o) (by have:=Y.o.pos;simp;omega)
   | cons c T=>
    have aA:=Y.o.ofHead;have N:c.toArray.size=(Ξf:Nat):=by simpa using aA.1
    have aw:T.length<room:=by have:=of_decide_eq_true au.o;simp at this;omega
    go_wp2_with (first | (((with_reducible refine(Ξi am R A room first c T ac aj O ag css (Y.o.more af.o)).mono ?_);rintro e w5 ⟨rfl,aa,a5⟩;have aR:=κ aa;have aN:=κ a5;have aP:=κ (a5.blk aE.o (by rintro(e | e)<;>omega));have aM:=κ (a5.blk av.o (by rintro(e | e)<;>omega));have az:=κ (a5.blk aB.o (by rintro(e | e)<;>omega));clear aa a5)) | (refine yL (.store (Ξa:Nat) (.tmp 7) (.tmp 18)) rfl ?_;refine xW rfl (Ξa:Nat) (.tmp 7) (.tmp 18) rfl (w.heap.size+2) (Ξa:Nat) _ c.toArray az.o rfl rfl (by rw[N];kernel_rfl) (by rw[N];rfl) (all_oneCell_toArray aA.2) ?_;obtain⟨w6,aJ⟩: ∃w6,w5.setRow (w.heap.size+2) c.toArray=w6:=⟨_,rfl⟩;have ao:=κ (aR.o.away (xb w5 (w.heap.size+2) c.toArray) (λe:R=w.heap.size+2=>by omega) (λe:A=w.heap.size+2=>by omega));have ap:Hid (qg (RgB R A) w (w5.setRow (w.heap.size+2) c.toArray)):=κ (((qg.of_more af.o).trans aN.o).rowNew τ _);have aQ:Hid ((w5.setRow (w.heap.size+2) c.toArray).heap[w.heap.size]? =_):=κ (qS aP.o _ τ);have ak:Hid ((w5.setRow (w.heap.size+2) c.toArray).heap[w.heap.size+1]? =_):=κ (qS aM.o _ τ);have aq:Hid ((w5.setRow (w.heap.size+2) c.toArray).heap[w.heap.size+2]? =_):=κ (jY az.o c.toArray);rw[aJ] at ao ap aQ ak aq ⊢;clear aJ aR aN aP aM az;have bq:w6.cell? ⟨R,6,none⟩=some (ι O):=qb ao.o.ring 6 rfl;have bh:w6.frozen? ⟨R,6,none⟩=false:=qd ao.o.ring 6))
    go_meet;exact⟨c,_,T,_,css.set first Ξb,ao.o.dropped _,ap.o.set (Or.inl rfl) _,qo aQ.o _ _ (by show w.heap.size≠R;omega),qo ak.o _ _ (by show w.heap.size+1≠R;omega),qo aq.o _ _ (by show w.heap.size+2≠R;omega),aw,aA,rfl,rfl,rfl⟩
 case rest=>
 obtain⟨G,f,q,M,cs,aa,a5,aD,ay,ax,aW,aO,aI⟩:=hcut;have N:G.toArray.size=(Ξf:Nat):=by simpa using aO.1
 obtain⟨ae,aC⟩:=ν (wc);rw[aC] at aa a5 aD ay ax;rw[aC];have d:=κ aa;have aS:=κ a5;have aK:=κ aD;have aT:=κ ay;have aG:=κ ax;have aU:=κ aI;clear aa a5 aD ay ax aI aC af aE av aB
 go_upto_region 8 with fail
 have bc: ∀x:qt ae,x.w'.cell? ⟨R,0,none⟩=some (δ (some ⟨A,0,none⟩) room room):=λx=>x.cell (qn d.o.ring) (qb d.o.ring 0 rfl)
 have aV: ∀x:qt ae,x.w'.cell? ⟨R,1,none⟩=some (ι f):=λx=>x.cell (qn d.o.ring) (qb d.o.ring 1 rfl)
 have aZ: ∀x:qt ae,x.w'.cell? ⟨R,2,none⟩=some (ι q.length):=λx=>x.cell (qn d.o.ring) (qb d.o.ring 2 rfl)
 have bi:((f:Int)+(q.length:Int))%(room:Int)=(((f+q.length)%room:Nat):Int):=by rw[Int.natCast_emod];rfl
 have bb:(f+q.length)%room<room:=Nat.mod_lt _ τ;have hi:(((f+q.length)%room:Nat):Int)<(room:Int):=by omega
 have bo:=d.o.pos;have bj:=d.o.fst;have bm:(f:Int)<=8:=by omega
 have bp:(q.length:Int)<=8:=by omega
 generalize ba:(f+q.length)%room=I at *;refine Qn ae 21 22 [21] ?_
 iterate 19 (refine qE rfl rfl (qk ρ) ?_;intro K U;go_big_quiet_op;go_big_quiet_on)
 refine jh rfl rfl (qk ρ) (Ξa:Nat) (.tmp 3) rfl w.heap.size 0 rfl x _ (λw' aX=>by obtain⟨y,rfl⟩:=aX;exact xy (qc y.h aK.o)) Ξj rfl (by rw[ad.1];kernel_rfl) ?_;intro K U;go_simp;refine U _ ?_;clear U K
 refine Qq ?_
 refine zY rfl rfl ζ ?_;intro K U;refine zF (Ξa:Nat) (.tmp 48) (.tmp 47) rfl A (I* (Ξf:Nat)) (Ξa:Nat) cs.flatten.toArray x rfl rfl (qr d.o.row 1) (by rw[d.o.size,ad.1];have:=Nat.mul_le_mul_right (Ξf:Nat) (show I+1<=room by omega);omega) (by rw[ad.1];kernel_rfl) ad.2 ?_;refine⟨trivial, ?_⟩;go_simp;refine U _ _ ?_;clear U K bc aV aZ;refine qA ?_;obtain⟨W6,J⟩:=ν ((ae.drewN 1).setRow A (xQ cs.flatten (I* (Ξf:Nat)) x).toArray);have ap:Hid (qg (RgB R A) w W6):=κ (by rw[<-J];exact(aS.o.drewN 1).row (Or.inr rfl) _);have ai:Hid (W6.heap[R]? =some (.cells (jV A room f q.length ac aj M ag) (Ξg:Nat) (0,0))):=κ (by rw[<-J];exact qS (qr d.o.ring 1) _ d.o.ne);have aY:Hid (W6.heap[A]? =some (.cells (cs.set I x).flatten.toArray (Ξa:Nat) (0,0))):=κ (by rw[<-J,<-JO cs I _ d.o.cl ad.1 (by rw[d.o.len];exact bb)];exact jY (qr d.o.row 1) _);have ak:Hid (W6.heap[w.heap.size+1]? =some (.cells Ξb (Ξa:Nat) (0,0))):=κ (by rw[<-J];exact qS (qr aT.o 1) _ τ);have aq:Hid (W6.heap[w.heap.size+2]? =some (.cells G.toArray (Ξa:Nat) (0,0))):=κ (by rw[<-J];exact qS (qr aG.o 1) _ τ);rw[J];clear J aS aK aT aG;have aH:w.heap.size+2≠R:=by omega
 have ar:w.heap.size+1≠R:=by omega
 have bk:W6.cell? ⟨R,2,none⟩=some (ι q.length):=qb ai.o 2 rfl;have bl:W6.frozen? ⟨R,2,none⟩=false:=qd ai.o 2;have bf:W6.cell? ⟨R,4,none⟩=some (ι ac):=qb ai.o 4 rfl;have br:W6.frozen? ⟨R,4,none⟩=false:=qd ai.o 4
 go_wp2_with (first | (refine yL (.load (Ξa:Nat) (.tmp 7)) rfl ?_;refine vO rfl (Ξa:Nat) (.tmp 7) rfl (w.heap.size+2) (Ξa:Nat) G.toArray _ (qo (qo aq.o ⟨R,2,none⟩ _ aH) ⟨R,4,none⟩ _ aH) rfl Ξj rfl (by rw[N];kernel_rfl) ?_) | (refine yL (.store (Ξa:Nat) (.tmp 4) (.tmp 65)) rfl ?_;refine xW rfl (Ξa:Nat) (.tmp 4) (.tmp 65) rfl (w.heap.size+1) (Ξa:Nat) _ G.toArray (qo (qo ak.o ⟨R,2,none⟩ _ ar) ⟨R,4,none⟩ _ ar) rfl rfl (by rw[N];kernel_rfl) (by rw[N];rfl) (all_oneCell_toArray aO.2) ?_))
 have aF:R≠A:=d.o.ne;refine bodyPost_ret (v:= .tuple #[θ G.toArray,ab,ι 0]) (KW Ξk _ _ (w.heap.size+1) (Ξa:Nat) G.toArray _ _ _ rfl rfl rfl (jY (qo (qo ak.o ⟨R,2,none⟩ _ ar) ⟨R,4,none⟩ _ ar) _) Ξj rfl (by rw[N];kernel_rfl)) rfl ?_;subst ba;refine⟨_,_,_,_,_,rfl,⟨wrap64 (ac+1),d.o.put aW ad ?_ ?_⟩,((ap.o.set (Or.inl rfl) _).set (Or.inl rfl) _).rowNew τ _,aU.o⟩
 ·exact qS (qB (qp (qp ai.o 2 _) 4 _) rfl) _ τ
 ·exact qS (qo (qo aY.o _ _ (Ne.symm aF)) _ _ (Ne.symm aF)) _ τ):P:=h
section
open _root_.Go.Proofs.Tryz renaming func182->Ξc,ntmps182->Ξd,underlying218->Ξj,results182->Ξk
open _root_.Go.Proofs.YtdgippmmaponfaaGreat renaming Ν218->Ξa,Γa->Ξb,Mj->Ξe,Ν13->Ξf,Ν289->Ξg,zokI->Ξh,DK->Ξi
theorem ZG (w:World) (R A room first:Nat) (H:List (List Value)) (ac aj O ag:Int) (css:List (List Value)) (h:qN 13 289 218 w R A room first H ac aj O ag css) (x:List Value) (ad:x.length=13/\ ∀u∈x,u.oneCell'=true) (ab:Bool) (aL:decide (H.length=room)=ab):
  Calls prog 182 #[γ R,θ x.toArray] w λe w'=> ∃(G:List Value) (f:Nat) (q:List (List Value)) (M:Int) (cs:List (List Value)),e= .returned (.tuple #[θ G.toArray,ab,ι 0])/\(∃ci',qN 13 289 218 w' R A room f (q++[x]) ci' aj M ag (cs.set ((f+q.length)%room) x))/\qg (RgB R A) w w'/\Wt Γa first room H css O ab G f q M cs:=Ψ5
end
theorem UF (w:World) (R A room first:Nat) (q:List (List Value)) (I G H d:Int) (css:List (List Value)) (h:qN 13 289 218 w R A room first q I G H d css) (ac:q.length<room) (x:List Value) (Y:x.length=13/\ ∀u∈x,u.oneCell'=true):
  Calls prog 182 #[γ R,θ x.toArray] w λe w'=>e= .returned (.tuple #[Γa,μ false,ι 0])/\(∃ci',qN 13 289 218 w' R A room first (q++[x]) ci' G H d (css.set ((first+q.length)%room) x))/\qg (RgB R A) w w':=
 (ZG w R A room first q I G H d css h x Y false (decide_eq_false τ)).mono λe w' ⟨_,_,_,_,_,N,aa,a,M,ab,O,J,U⟩=>by
  subst M ab O J U;exact⟨N,aa,a⟩
theorem UG (w:World) (R A room first:Nat) (c:List Value) (T:List (List Value)) (M H N d:Int) (css:List (List Value)) (h:qN 13 289 218 w R A room first (c::T) M H N d css) (O:(c::T).length=room) (x:List Value) (aa:x.length=13/\ ∀u∈x,u.oneCell'=true):
  Calls prog 182 #[γ R,θ x.toArray] w λe w'=>e= .returned (.tuple #[θ c.toArray,true,ι 0])/\(∃G I,qN 13 289 218 w' R A room ((first+1)%room) (T++[x]) G H I d ((css.set first Γa).set (((first+1)%room+T.length)%room) x))/\qg (RgB R A) w w':=
 (ZG w R A room first (c::T) M H N d css h x aa true (decide_eq_true O)).mono λe w' ⟨ad,f,q,I,cs,U,⟨G,ab⟩,a,J,ac,Y⟩=>by
  injection J with J h4
  subst J ac Y h4;exact⟨U,⟨G,I,ab⟩,a⟩
theorem Ag (c:List Value) (h:c.length=13): ∃a0 a1 a2 a3 a4 a5 a6 a7 a8 a9 a10 a11 a12,c=[a0,a1,a2,a3,a4,a5,a6,a7,a8,a9,a10,a11,a12]:=by
 match c,h with
 | [a0,a1,a2,a3,a4,a5,a6,a7,a8,a9,a10,a11,a12],_=>exact⟨a0,a1,a2,a3,a4,a5,a6,a7,a8,a9,a10,a11,a12,rfl⟩
theorem zI {S:Nat->Prop} {w w':World} {base e n m:Nat} {v:Value} {xs:List Value} (h:w.ownsRow base e n v m xs) (a:qg S w w') (G: ∀b,base<=b-> ¬S b):w'.ownsRow base e n v m xs:=by
 obtain⟨d,H⟩:=h;refine⟨d, ?_⟩;rcases H with h | ⟨b,cap,cur,e1,hb,hg,rest⟩
 ·exact Or.inl h
 ·exact Or.inr ⟨b,cap,cur,e1,hb,a.blk hg (G b hb),rest⟩
theorem vV {w:World} {base e size n b:Nat} {v:Value} {xs:List Value} (h:w.ownsRow base e size v n xs) (d:v.ownBlock=some b):base<=b:=by
 rcases h.2 with ⟨rfl,_⟩ | ⟨g,cap,cur,rfl,G,_⟩
 ·cases d
 ·obtain rfl:g=b:=by injection d
  exact G
theorem zA {w:World} {base e size n:Nat} {v:Value} {xs:List Value} (h:w.ownsRow base e size v n xs): ∃oa cap,v= δ oa n cap:=by
 rcases h.2 with ⟨rfl,d⟩ | ⟨g,cap,cur,rfl,_⟩
 ·exact⟨none,0,by rw[d]⟩
 ·exact⟨_,cap,rfl⟩
theorem IN (w:World) (R A room first:Nat) (q:List (List Value)) (M J H I:Int) (css:List (List Value)) (h:qN 13 289 218 w R A room first q M J H I css):
  Calls prog 166 #[γ R] w λe w'=> ∃v,e= .returned v/\w'.ownsRow w.heap.size 218 13 v q.length q.flatten/\(∃first' cg' css',qN 13 289 218 w' R A room first' [] M J H cg' css')/\qg (RgB R A) w w':=by
 obtain⟨aN,aM,aO,aG,aH⟩:=info_parts (P:=prog) (e:=218) (z:= Γa) (size:=13) (bytes:=120) ξ;have aE:=κ h;have aS:R<w.heap.size:=qn h.ring;have aU:A<w.heap.size:=qn h.row;have aY:w.cell? ⟨R,2,none⟩=some (ι q.length):=qb h.ring 2 rfl;have ba:(q.length:Int)<=8:=by have:=h.fits;have:=h.pos.2;omega
 have aJ:=κ h.qall;clear h
 go_enter func166,ntmps166
 go_wp2
 go_loopw [3,8] (λu ag wr=> ∃(j f:Nat) (cs:List (List Value)),j<=q.length/\ag= ι j/\(∃ao ap ar,u= δ ao ap ar)/\wr.ownsRow w.heap.size 218 13 u j (q.take j).flatten/\qN 13 289 218 wr R A room f (q.drop j) M J H I cs/\qg (RgB R A) w wr) (λ_ ag _=>q.length-(intOf ag).toNat)
 case atStart=>exact⟨0,first,css,τ,rfl,⟨_,_,_,rfl⟩,World.ownsRow_nil w _ _ _,aE.o,qg.refl _ _⟩
 case round=>
  obtain⟨j,f,cs,aX,rfl,⟨ao,ap,ar,rfl⟩,d,aq,an⟩:=hrel;have am:=κ d;have G:=κ aq;have ak:=κ an;clear d aq an;by_cases hlt:j<q.length
  ·have ai:q.drop j=q[j]::q.drop (j+1):=List.drop_eq_getElem_cons hlt;have ah:q.take (j+1)=q.take j++[q[j]]:=by rw[List.take_add_one,List.getElem?_eq_getElem hlt];rfl
   have Y:=aJ.o q[j] (List.getElem_mem hlt);have aW:(j:Int)<(q.length:Int):=by omega
   obtain⟨c,aA⟩: ∃c,Hid (c=q[j]):=⟨_,κ rfl⟩;rw[<-aA.o] at ai ah Y;have aP:=κ (ai▸G.o);have az:=κ ah;have aZ:c.toArray.size=13:=by simpa using Y.1
   clear ai ah G;obtain⟨a0,ac,N,a3,a4,a5,ad,aa,ab,a9,ae,af,U,rfl⟩:=Ag c Y.1
   go_wp2_with (first | (go_at_call 210;(go_call DK wr R A room f [a0,ac,N,a3,a4,a5,ad,aa,ab,a9,ae,af,U] (q.drop (j+1)) M J H I cs aP.o as e w5 ⟨rfl,av,a5⟩;have aF:=κ av;have aQ:=κ a5;have O:=κ (zI am.o a5 (λb al e=>by rcases e with e | e<;>omega));have aB:Hid (w.heap.size<=w5.heap.size):=κ (Nat.le_trans ak.o.size a5.size);clear av a5)) | (at_builtin;refine wpList_append_own_at _ rfl (.tmp 10) (.tmp 13) 287 rfl w.heap.size 218 aN (Γa) 13 120 underlying287 aM aO aG aH rfl ζ _ j (q.take j).flatten rfl (zI O.o (qg.of_more (qa.alloc _ _)) (λb _ e=>e)) ⟨w5.heap.size,0,none⟩ 1 1 [a0,ac,N,a3,a4,a5,ad,aa,ab,a9,ae,af,U] rfl rfl (λi u aC=>by have:=xy (cs:=[a0,ac,N,a3,a4,a5,ad,aa,ab,a9,ae,af,U]) (t:=218) (qj w5 (.cells #[a0,ac,N,a3,a4,a5,ad,aa,ab,a9,ae,af,U] 218)) i u aC;rw[Addr.add_mid];exact this) Y.2 (by unfold maxLen;omega) τ (by have:=aB.o;simp;omega) ?_;intro v6 w6 d aj aI aR;have aK:=κ d;have aD:Hid (qg (RgB R A) w w6):=κ (((ak.o.trans aQ.o).alc _).grown aj (λb al=>vV O.o al));have ay:Hid (qN 13 289 218 w6 R A room ((f+1)%room) (q.drop (j+1)) M J H I (cs.set f Γa)):=κ ((aF.o.more (qa.alloc _ _)).away (qg.of_grown aj) (λe=>by have:=vV O.o e;omega) (λe=>by have:=vV O.o e;omega));obtain⟨aT,aV,rfl⟩:=zA d;clear d aj aI aR))
   go_roundw
   case rel=>exact⟨j+1,(f+1)%room,_,τ,by go_num,⟨_,_,_,rfl⟩,by rw[az.o,List.flatten_append];simpa using aK.o,ay.o,aD.o⟩
   case measure=>simp[intOf];omega
  ·obtain rfl:j=q.length:=by omega
   have bc:wr.cell? ⟨R,7,none⟩=some (ι I):=qb G.o.ring 7 rfl;have bb:wr.frozen? ⟨R,7,none⟩=false:=qd G.o.ring 7;go_wp2;go_ret;have ax:q.drop q.length=[]:=by simp
   have aL:q.take q.length=q:=by simp
   have au:=G.o;have aw:=am.o;rw[ax] at au;rw[aL] at aw;exact⟨_,rfl,zI aw ((qg.refl (λb=>b=R) _).set rfl _) (λb al e=>by omega),⟨_,_,_,au.drained _⟩,ak.o.set (Or.inl rfl) _⟩
def idV (c:List Value):Value:=match c with | .int .i64 n::_=> .int .i64 n | _=> .int .i64 0
def idN (c:List Value):Int:=match c with | .int .i64 n::_=>n | _=>0
theorem YB {n:Nat} {w:World} {base e:Nat} {v:Value} {q:List (List Value)} (h:w.ownsRow base e n v q.length q.flatten) (H: ∀c∈q,c.length=n):
  ∃oa cap,v= δ oa q.length cap/\ ∀j,j<q.length-> ∃b,oa=some ⟨b,0,none⟩/\b<w.heap.size/\ ∀w',qa w w'->w'.rangeAt b (j* n) (q.getD j []):=by
 obtain⟨ae,O⟩:=h;rcases O with ⟨rfl,M⟩ | ⟨g,cap,cur,rfl,U,I,aa,ab,ad,N⟩
 ·exact⟨none,0,by rw[M],λj d=>by omega⟩
 ·refine⟨_,cap,rfl,λj d=>⟨g,rfl,lt_of_block I,λw' m i u J=> ?_⟩⟩;have Y:(q.getD j []).length=n:=by
   rw[List.getD_eq_getElem?_getD,List.getElem?_eq_getElem d];exact H _ (List.getElem_mem d)
  have hi:i<n:=by have:=(List.getElem?_eq_some_iff.1 J).1;omega
  have ac:j* n+n<=q.length* n:=by
   have:(j+1)* n<=q.length* n:=Nat.mul_le_mul_right n d;rw[Nat.add_mul,Nat.one_mul] at this;exact this
  have G:=Wr q j i H d hi;rw[<-N,List.getElem?_take,if_pos τ] at G;rw[cell_of_row w' g _ cur e (0,0) (qc m I),<-J,<-G];simp
theorem Fl (i:Int) (c:List Value) (d:c.length=12) (w:World):Calls prog 167 #[θ (ι i::c).toArray] w λe w'=>e= .returned (ι i)/\qa w w':=by
 obtain⟨a0,U,H,a3,a4,a5,J,I,N,a9,M,O,G,h⟩:=Ag (ι i::c) (by simp[d]);obtain⟨rfl,rfl⟩:a0= ι i/\c=[U,H,a3,a4,a5,J,I,N,a9,M,O,G]:=by
  injection h with h1 h2
  exact⟨h1.symm,h2⟩
 clear h d
 go_enter func167,ntmps167
 go_wp2;go_ret;exact⟨rfl,ρ⟩
theorem Ψ6 {P:Prop} (h:P:=by
 obtain⟨aJ,hi,aI,aF,aB⟩:=info_parts (P:=prog) (e:=3) (z:= ι 0) (size:=1) (bytes:=8) ξ;obtain⟨aL,cap,rfl,au⟩:=YB row (λc d=>by obtain⟨i,r,rfl,G⟩:=U c d;simp[G]);have aw:=κ au;have az:=κ U;have aC:=κ ak;clear row au U ak
 go_enter Ξa,Ξb
 go_wp2
 go_loopw [5,10] (λu M wr=> ∃j:Nat,j<=q.length/\M= ι j/\(∃ag ah am,u= δ ag ah am)/\wr.ownsRow w.heap.size 3 1 u ((q.take j).map idN).length (((q.take j).map idN).map (Value.int .i64))/\qa w wr) (λ_ M _=>q.length-(intOf M).toNat)
 case atStart=>exact⟨0,τ,rfl,⟨_,_,_,rfl⟩,World.ownsRow_nil w _ _ _,qa.refl _⟩
 case round=>
  obtain⟨j,aM,rfl,⟨ag,ah,am,rfl⟩,ai,aj⟩:=hrel;have N:=κ ai;have H:=κ aj;clear ai aj;by_cases hlt:j<q.length
  ·have aK:(j:Int)<(q.length:Int):=by omega
   have Y:(q.take (j+1)).map idN=(q.take j).map idN++[idN q[j]]:=by rw[List.take_add_one,List.getElem?_eq_getElem hlt,List.map_append];rfl
   obtain⟨b,rfl,aO,ao⟩:=aw.o j hlt;have af:q.getD j []=q[j]:=by rw[List.getD_eq_getElem?_getD,List.getElem?_eq_getElem hlt];rfl
   have I:=κ (ao wr H.o);rw[af] at I;obtain⟨id,r,ac,G⟩:=az.o q[j] (List.getElem_mem hlt);rw[ac] at Y I;have av:Hid ((q.take (j+1)).map idN=(q.take j).map idN++[id]):=κ Y;have O:=aC.o q[j] (List.getElem_mem hlt);rw[ac] at O;obtain⟨c,d⟩: ∃c,c= ι id::r:=⟨_,rfl⟩;have J:=Ξc id r G;rw[<-d] at I O J;have aq:c.length=(Ξd:Nat):=by rw[d];simp[G]
   have ab:c.toArray.size=(Ξd:Nat):=by simpa using aq
   have aA:=κ J;clear d J;clear af ao ac Y;have c1:(((q.take j).map idN).length+[id].length)* 8<=140737488355328:=(by simp;omega)
   go_wp2_with (first | (refine yL (.load (Ξe:Nat) (.tmp 12)) rfl ?_;refine wpList_load_mid rfl (Ξe:Nat) (.tmp 12) rfl b (j* (Ξd:Nat)) rfl c _ I.o Ξf rfl (by rw[aq];kernel_rfl) ?_) | (refine yL (.store (Ξe:Nat) (.tmp 7) (.tmp 13)) rfl ?_;refine xW rfl (Ξe:Nat) (.tmp 7) (.tmp 13) rfl wr.heap.size (Ξe:Nat) _ c.toArray (qj wr _) rfl rfl (by rw[ab];kernel_rfl) (by rw[ab];rfl) (all_oneCell_toArray O) ?_;have ax:=κ (jY (qj wr (.cells Ξg (Ξe:Nat))) c.toArray)) | (refine yL (.load (Ξe:Nat) (.tmp 7)) rfl ?_;refine vO rfl (Ξe:Nat) (.tmp 7) rfl wr.heap.size (Ξe:Nat) c.toArray _ ax.o rfl Ξf rfl (by rw[ab];kernel_rfl) ?_) | (refine(aA.o _).mono ?_;rintro e w1 ⟨rfl,an⟩;have ad:Hid (qa wr w1):=κ (((xb _ _ _).to_more (qa.alloc _ _) (λk e=>by rw[e];exact Nat.le_refl _)).trans an);clear an) | (at_builtin;refine xr _ rfl (.tmp 14) (.tmp 18) 75 rfl w.heap.size 3 aJ (ι 0) 8 underlying75 hi aI aF aB rfl _ .i64 ((q.take j).map idN) rfl (zI N.o (S:=λ_=>False) ((qg.of_more ad.o).alc _) (λ_ _ h=>h)) _ [id] rfl (SlI.lit .i64 w1 [id] 3 _ 1 _ η rfl rfl η) c1 ζ (Nat.le_trans (H.o.trans ad.o).size (qa.alloc _ _).size) ?_;intro v2 w2 aa ae;have ay:=κ aa;have aE:Hid (qa w w2):=κ ((qg.of_more (S:=λ_=>False) ((H.o.trans ad.o).al _)).grown ae (λk aD=>vV N.o aD) |>.to_more (qa.refl _) (λk e=>e.elim));obtain⟨o2,c2,rfl⟩:=zA aa;clear aa ae))
   go_roundw
   case rel=>exact⟨j+1,τ,by go_num,⟨_,_,_,rfl⟩,by rw[av.o];have ap:=ay.o;have aG:((q.take j).map idN++[id]).length=j+1:=(by simp;omega);(rw[aG] at ap ⊢;exact ap),aE.o⟩
   case measure=>simp[intOf];omega
  ·obtain rfl:j=q.length:=by omega
   have aP: ¬(q.length:Int)<(q.length:Int):=by omega
   go_wp2;go_ret;have aH:q.take q.length=q:=by simp
   have ar:=N.o;rw[aH] at ar;exact⟨⟨_,rfl,by simpa using ar⟩,H.o⟩):P:=h
section
open _root_.Go.Proofs.Tryz renaming func165->Ξa,ntmps165->Ξb,underlying218->Ξf
open _root_.Go.Proofs.YtdgippmmaponfaaGreat renaming Fl->Ξc,Ν13->Ξd,Ν218->Ξe,Γa->Ξg
theorem Nl (w:World) (v:Value) (q:List (List Value)) (base:Nat) (row:w.ownsRow base 218 13 v q.length q.flatten) (U: ∀c∈q,∃i r,c= ι i::r/\r.length=12) (ak: ∀c∈q,∀u∈c,u.oneCell'=true) (aN:q.length<=8):
  Calls prog 165 #[v,.func (.func 167) #[] #[]] w λe w'=>(∃v',e= .returned v'/\w'.ownsRow w.heap.size 3 1 v' (q.map idN).length ((q.map idN).map (Value.int .i64)))/\qa w w':=Ψ6
end
theorem LM (w:World):(zeroValue 107).run prog w= .ok (Γs) w:=by kernel_rfl
theorem zsO:(Builtin.zeroCells (Γs:Value).cells 1).toList=Γs:=by kernel_rfl
theorem zokO:(Γs:List Value).length=2/\ ∀u∈(Γs:List Value),u.oneCell'=true:=⟨rfl,by simp[Value.oneCell']⟩
section
open _root_.Go.Proofs.Tryz renaming func204->Ξb,ntmps204->Ξc,underlying107->Ξg,underlying102->Ξi,results204->Ξm
open _root_.Go.Proofs.YtdgippmmaponfaaGreat renaming Ν2->Ξa,Γs->Ξd,Ν107->Ξe,Ν294->Ξf,Ν102->Ξh,LM->Ξj,zsO->Ξk,zokO->Ξl
theorem DJ (w:World) (R A room first:Nat) (c:List Value) (T:List (List Value)) (ad ab ae aa:Int) (css:List (List Value)) (h:qN 2 294 107 w R A room first (c::T) ad ab ae aa css):
  Calls prog 204 #[γ R] w λe w'=>e= .returned (θ c.toArray)/\qN 2 294 107 w' R A room ((first+1)%room) T ad ab ae aa (css.set first Γs)/\qg (RgB R A) w w':=Ψ2
end
theorem Nh {w:World} {R A room first:Nat} {q:List (List Value)} {H G I d:Int} {css:List (List Value)} (h:qN 2 294 107 w R A room first q H G I d css):
  Calls prog 105 #[γ R] w λe w'=>e= .returned (ι q.length)/\w'=w:=by
 have J:w.cell? ⟨R,2,none⟩=some (ι q.length):=qb h.ring 2 rfl;clear h
 go_enter func105,ntmps105
 go_wp2;go_ret;exact⟨rfl,rfl⟩
section
open _root_.Go.Proofs.Tryz renaming func229->Ξa,ntmps229->Ξb
theorem Mi {w:World} {R A room first:Nat} {q:List (List Value)} {I H J d:Int} {css:List (List Value)} (h:qN 2 294 107 w R A room first q I H J d css):
  Calls prog 229 #[γ R] w λe w'=>e= .returned (μ (decide (q.length=room)))/\ ∃k,w'=w.drewN k:=Ψ3
end
theorem mkO (n:Nat) (N:1<=n) (M:n<=8) (w:World):
  (Instr.makeSlice 102 (ι (n:Int)) (ι (n:Int))).run prog w= .ok (δ (some ⟨w.heap.size,0,none⟩) n n) (w.alloc (.cells (List.replicate n (Γs:List Value)).flatten.toArray 107)):=by
 obtain⟨G,hi,I,J,d⟩:=info_parts (P:=prog) (e:=107) (z:= Γs) (size:=2) (bytes:=32) ξ;have H:=run_make (P:=prog) w 102 107 G (Γs) underlying102 hi I .i64 .i64 n n τ τ (by rw[d];omega) τ;rw[H];simp only[Int.toNat_natCast,J];rw[Yq _ 2 n rfl ζ];rfl
theorem Po (m:Int) (n:Nat) (H:m=n) (d:1<=n) (G:n<=8) (w:World):
  Calls prog 114 #[ι m] w λe w'=>e= .returned (.tuple #[γ (w.heap.size+1),ι 0])/\qN 2 294 107 w' (w.heap.size+1) w.heap.size n 0 [] 0 0 0 0 (List.replicate n (Γs:List Value))/\qa w w':=by
 subst H;have J:1<=(n:Int):=by omega
 go_enter func114,ntmps114
 have M:=mkO n d G;go_wp2;refine bodyPost_ret (v:= .tuple #[γ (w.heap.size+1),ι 0]) (by simp[results,results114,go_sem]) rfl ?_;refine⟨rfl, ?_,ρ⟩;exact⟨qC η,qs (qB (qj _ _) rfl) _,τ,η,λc I=>by rw[List.eq_of_mem_replicate I];exact zokO,⟨d,G⟩,τ,η,λi hi=>by simp at hi⟩
section
open _root_.Go.Proofs.Tryz renaming func161->Ξb,ntmps161->Ξc,results161->Ξg,underlying107->Ξh
open _root_.Go.Proofs.YtdgippmmaponfaaGreat renaming Ν2->Ξa,DJ->Ξd,Γs->Ξe,Ν107->Ξf
theorem Na (w:World) (R A room first:Nat) (c:List Value) (T:List (List Value)) (I M J G:Int) (css:List (List Value)) (h:qN 2 294 107 w R A room first (c::T) I M J G css):
  Calls prog 161 #[γ R] w λe w'=>e= .returned (.tuple #[θ c.toArray,true])/\(∃co',qN 2 294 107 w' R A room ((first+1)%room) T I co' J G (css.set first Γs))/\qg (RgB R A) w w':=Ψ4
end
section
open _root_.Go.Proofs.Tryz renaming func188->Ξc,ntmps188->Ξd,underlying107->Ξj,results188->Ξk
open _root_.Go.Proofs.YtdgippmmaponfaaGreat renaming Ν107->Ξa,Γs->Ξb,Mi->Ξe,Ν2->Ξf,Ν294->Ξg,zokO->Ξh,DJ->Ξi
theorem ZF (w:World) (R A room first:Nat) (H:List (List Value)) (ac aj O ag:Int) (css:List (List Value)) (h:qN 2 294 107 w R A room first H ac aj O ag css) (x:List Value) (ad:x.length=2/\ ∀u∈x,u.oneCell'=true) (ab:Bool) (aL:decide (H.length=room)=ab):
  Calls prog 188 #[γ R,θ x.toArray] w λe w'=> ∃(G:List Value) (f:Nat) (q:List (List Value)) (M:Int) (cs:List (List Value)),e= .returned (.tuple #[θ G.toArray,ab,ι 0])/\(∃ci',qN 2 294 107 w' R A room f (q++[x]) ci' aj M ag (cs.set ((f+q.length)%room) x))/\qg (RgB R A) w w'/\Wt Γs first room H css O ab G f q M cs:=Ψ5
end
theorem UD (w:World) (R A room first:Nat) (q:List (List Value)) (I G H d:Int) (css:List (List Value)) (h:qN 2 294 107 w R A room first q I G H d css) (ac:q.length<room) (x:List Value) (Y:x.length=2/\ ∀u∈x,u.oneCell'=true):
  Calls prog 188 #[γ R,θ x.toArray] w λe w'=>e= .returned (.tuple #[Γs,μ false,ι 0])/\(∃ci',qN 2 294 107 w' R A room first (q++[x]) ci' G H d (css.set ((first+q.length)%room) x))/\qg (RgB R A) w w':=
 (ZF w R A room first q I G H d css h x Y false (decide_eq_false τ)).mono λe w' ⟨_,_,_,_,_,N,aa,a,M,ab,O,J,U⟩=>by
  subst M ab O J U;exact⟨N,aa,a⟩
theorem UE (w:World) (R A room first:Nat) (c:List Value) (T:List (List Value)) (M H N d:Int) (css:List (List Value)) (h:qN 2 294 107 w R A room first (c::T) M H N d css) (O:(c::T).length=room) (x:List Value) (aa:x.length=2/\ ∀u∈x,u.oneCell'=true):
  Calls prog 188 #[γ R,θ x.toArray] w λe w'=>e= .returned (.tuple #[θ c.toArray,true,ι 0])/\(∃G I,qN 2 294 107 w' R A room ((first+1)%room) (T++[x]) G H I d ((css.set first Γs).set (((first+1)%room+T.length)%room) x))/\qg (RgB R A) w w':=
 (ZF w R A room first (c::T) M H N d css h x aa true (decide_eq_true O)).mono λe w' ⟨ad,f,q,I,cs,U,⟨G,ab⟩,a,J,ac,Y⟩=>by
  injection J with J h4
  subst J ac Y h4;exact⟨U,⟨G,I,ab⟩,a⟩
theorem Af (c:List Value) (h:c.length=2): ∃a0 a1,c=[a0,a1]:=by
 match c,h with
 | [a0,a1],_=>exact⟨a0,a1,rfl⟩
theorem YC {S:Nat->Prop} {w w':World} {base e n m:Nat} {v:Value} {xs:List Value} (h:w.ownsRow base e n v m xs) (a:qg S w w') (G: ∀b,base<=b-> ¬S b):w'.ownsRow base e n v m xs:=by
 obtain⟨d,H⟩:=h;refine⟨d, ?_⟩;rcases H with h | ⟨b,cap,cur,e1,hb,hg,rest⟩
 ·exact Or.inl h
 ·exact Or.inr ⟨b,cap,cur,e1,hb,a.blk hg (G b hb),rest⟩
theorem um {w:World} {base e size n b:Nat} {v:Value} {xs:List Value} (h:w.ownsRow base e size v n xs) (d:v.ownBlock=some b):base<=b:=by
 rcases h.2 with ⟨rfl,_⟩ | ⟨g,cap,cur,rfl,G,_⟩
 ·cases d
 ·obtain rfl:g=b:=by injection d
  exact G
theorem VI {w:World} {base e size n:Nat} {v:Value} {xs:List Value} (h:w.ownsRow base e size v n xs): ∃oa cap,v= δ oa n cap:=by
 rcases h.2 with ⟨rfl,d⟩ | ⟨g,cap,cur,rfl,_⟩
 ·exact⟨none,0,by rw[d]⟩
 ·exact⟨_,cap,rfl⟩
theorem IM (w:World) (R A room first:Nat) (q:List (List Value)) (M J H I:Int) (css:List (List Value)) (h:qN 2 294 107 w R A room first q M J H I css):
  Calls prog 172 #[γ R] w λe w'=> ∃v,e= .returned v/\w'.ownsRow w.heap.size 107 2 v q.length q.flatten/\(∃first' cg' css',qN 2 294 107 w' R A room first' [] M J H cg' css')/\qg (RgB R A) w w':=by
 obtain⟨aG,aF,aH,az,aA⟩:=info_parts (P:=prog) (e:=107) (z:= Γs) (size:=2) (bytes:=32) ξ;have ax:=κ h;have aL:R<w.heap.size:=qn h.ring;have aN:A<w.heap.size:=qn h.row;have aR:w.cell? ⟨R,2,none⟩=some (ι q.length):=qb h.ring 2 rfl;have aT:(q.length:Int)<=8:=by have:=h.fits;have:=h.pos.2;omega
 have aC:=κ h.qall;clear h
 go_enter func172,ntmps172
 go_wp2
 go_loopw [3,8] (λu Y wr=> ∃(j f:Nat) (cs:List (List Value)),j<=q.length/\Y= ι j/\(∃ah ai ak,u= δ ah ai ak)/\wr.ownsRow w.heap.size 107 2 u j (q.take j).flatten/\qN 2 294 107 wr R A room f (q.drop j) M J H I cs/\qg (RgB R A) w wr) (λ_ Y _=>q.length-(intOf Y).toNat)
 case atStart=>exact⟨0,first,css,τ,rfl,⟨_,_,_,rfl⟩,World.ownsRow_nil w _ _ _,ax.o,qg.refl _ _⟩
 case round=>
  obtain⟨j,f,cs,aQ,rfl,⟨ah,ai,ak,rfl⟩,d,aj,ag⟩:=hrel;have af:=κ d;have G:=κ aj;have ad:=κ ag;clear d aj ag;by_cases hlt:j<q.length
  ·have ab:q.drop j=q[j]::q.drop (j+1):=List.drop_eq_getElem_cons hlt;have aa:q.take (j+1)=q.take j++[q[j]]:=by rw[List.take_add_one,List.getElem?_eq_getElem hlt];rfl
   have O:=aC.o q[j] (List.getElem_mem hlt);have aP:(j:Int)<(q.length:Int):=by omega
   obtain⟨c,ar⟩: ∃c,Hid (c=q[j]):=⟨_,κ rfl⟩;rw[<-ar.o] at ab aa O;have aI:=κ (ab▸G.o);have aq:=κ aa;have aS:c.toArray.size=2:=by simpa using O.1
   clear ab aa G;obtain⟨a0,U,rfl⟩:=Af c O.1
   go_wp2_with (first | (go_at_call 204;(go_call DJ wr R A room f [a0,U] (q.drop (j+1)) M J H I cs aI.o as e w5 ⟨rfl,am,a5⟩;have ay:=κ am;have aJ:=κ a5;have N:=κ (YC af.o a5 (λb ae e=>by rcases e with e | e<;>omega));have au:Hid (w.heap.size<=w5.heap.size):=κ (Nat.le_trans ad.o.size a5.size);clear am a5)) | (at_builtin;refine wpList_append_own_at _ rfl (.tmp 10) (.tmp 13) 102 rfl w.heap.size 107 aG (Γs) 2 32 underlying102 aF aH az aA rfl ζ _ j (q.take j).flatten rfl (YC N.o (qg.of_more (qa.alloc _ _)) (λb _ e=>e)) ⟨w5.heap.size,0,none⟩ 1 1 [a0,U] rfl rfl (λi u av=>by have:=xy (cs:=[a0,U]) (t:=107) (qj w5 (.cells #[a0,U] 107)) i u av;rw[Addr.add_mid];exact this) O.2 (by unfold maxLen;omega) τ (by have:=au.o;simp;omega) ?_;intro v6 w6 d ac aB aK;have aD:=κ d;have aw:Hid (qg (RgB R A) w w6):=κ (((ad.o.trans aJ.o).alc _).grown ac (λb ae=>um N.o ae));have ap:Hid (qN 2 294 107 w6 R A room ((f+1)%room) (q.drop (j+1)) M J H I (cs.set f Γs)):=κ ((ay.o.more (qa.alloc _ _)).away (qg.of_grown ac) (λe=>by have:=um N.o e;omega) (λe=>by have:=um N.o e;omega));obtain⟨aM,aO,rfl⟩:=VI d;clear d ac aB aK))
   go_roundw
   case rel=>exact⟨j+1,(f+1)%room,_,τ,by go_num,⟨_,_,_,rfl⟩,by rw[aq.o,List.flatten_append];simpa using aD.o,ap.o,aw.o⟩
   case measure=>simp[intOf];omega
  ·obtain rfl:j=q.length:=by omega
   have aV:wr.cell? ⟨R,7,none⟩=some (ι I):=qb G.o.ring 7 rfl;have aU:wr.frozen? ⟨R,7,none⟩=false:=qd G.o.ring 7;go_wp2;go_ret;have ao:q.drop q.length=[]:=by simp
   have aE:q.take q.length=q:=by simp
   have al:=G.o;have an:=af.o;rw[ao] at al;rw[aE] at an;exact⟨_,rfl,YC an ((qg.refl (λb=>b=R) _).set rfl _) (λb ae e=>by omega),⟨_,_,_,al.drained _⟩,ad.o.set (Or.inl rfl) _⟩
theorem Fk (i:Int) (c:List Value) (d:c.length=1) (w:World):Calls prog 173 #[θ (ι i::c).toArray] w λe w'=>e= .returned (ι i)/\qa w w':=by
 obtain⟨a0,G,h⟩:=Af (ι i::c) (by simp[d]);obtain⟨rfl,rfl⟩:a0= ι i/\c=[G]:=by
  injection h with h1 h2
  exact⟨h1.symm,h2⟩
 clear h d
 go_enter func173,ntmps173
 go_wp2;go_ret;exact⟨rfl,ρ⟩
section
open _root_.Go.Proofs.Tryz renaming func171->Ξa,ntmps171->Ξb,underlying107->Ξf
open _root_.Go.Proofs.YtdgippmmaponfaaGreat renaming Fk->Ξc,Ν2->Ξd,Ν107->Ξe,Γs->Ξg
theorem Nk (w:World) (v:Value) (q:List (List Value)) (base:Nat) (row:w.ownsRow base 107 2 v q.length q.flatten) (U: ∀c∈q,∃i r,c= ι i::r/\r.length=1) (ak: ∀c∈q,∀u∈c,u.oneCell'=true) (aN:q.length<=8):
  Calls prog 171 #[v,.func (.func 173) #[] #[]] w λe w'=>(∃v',e= .returned v'/\w'.ownsRow w.heap.size 3 1 v' (q.map idN).length ((q.map idN).map (Value.int .i64)))/\qa w w':=Ψ6
end
theorem LO (w:World):(zeroValue 220).run prog w= .ok (Γb) w:=by kernel_rfl
theorem zsC:(Builtin.zeroCells (Γb:Value).cells 1).toList=Γb:=by kernel_rfl
theorem zokC:(Γb:List Value).length=14/\ ∀u∈(Γb:List Value),u.oneCell'=true:=⟨rfl,by simp[Value.oneCell']⟩
section
open _root_.Go.Proofs.Tryz renaming func211->Ξb,ntmps211->Ξc,underlying220->Ξg,underlying290->Ξi,results211->Ξm
open _root_.Go.Proofs.YtdgippmmaponfaaGreat renaming Ν14->Ξa,Γb->Ξd,Ν220->Ξe,Ν292->Ξf,Ν290->Ξh,LO->Ξj,zsC->Ξk,zokC->Ξl
theorem F6 (w:World) (R A room first:Nat) (c:List Value) (T:List (List Value)) (ad ab ae aa:Int) (css:List (List Value)) (h:qN 14 292 220 w R A room first (c::T) ad ab ae aa css):
  Calls prog 211 #[γ R] w λe w'=>e= .returned (θ c.toArray)/\qN 14 292 220 w' R A room ((first+1)%room) T ad ab ae aa (css.set first Γb)/\qg (RgB R A) w w':=Ψ2
end
theorem Nj {w:World} {R A room first:Nat} {q:List (List Value)} {H G I d:Int} {css:List (List Value)} (h:qN 14 292 220 w R A room first q H G I d css):
  Calls prog 104 #[γ R] w λe w'=>e= .returned (ι q.length)/\w'=w:=by
 have J:w.cell? ⟨R,2,none⟩=some (ι q.length):=qb h.ring 2 rfl;clear h
 go_enter func104,ntmps104
 go_wp2;go_ret;exact⟨rfl,rfl⟩
section
open _root_.Go.Proofs.Tryz renaming func103->Ξa,ntmps103->Ξb
theorem Hf {w:World} {R A room first:Nat} {q:List (List Value)} {I H J d:Int} {css:List (List Value)} (h:qN 14 292 220 w R A room first q I H J d css):
  Calls prog 103 #[γ R] w λe w'=>e= .returned (μ (decide (q.length=room)))/\ ∃k,w'=w.drewN k:=Ψ3
end
theorem mkC (n:Nat) (N:1<=n) (M:n<=8) (w:World):
  (Instr.makeSlice 290 (ι (n:Int)) (ι (n:Int))).run prog w= .ok (δ (some ⟨w.heap.size,0,none⟩) n n) (w.alloc (.cells (List.replicate n (Γb:List Value)).flatten.toArray 220)):=by
 obtain⟨G,hi,I,J,d⟩:=info_parts (P:=prog) (e:=220) (z:= Γb) (size:=14) (bytes:=128) ξ;have H:=run_make (P:=prog) w 290 220 G (Γb) underlying290 hi I .i64 .i64 n n τ τ (by rw[d];omega) τ;rw[H];simp only[Int.toNat_natCast,J];rw[Yq _ 14 n rfl ζ];rfl
theorem Pq (m:Int) (n:Nat) (H:m=n) (d:1<=n) (G:n<=8) (w:World):
  Calls prog 113 #[ι m] w λe w'=>e= .returned (.tuple #[γ (w.heap.size+1),ι 0])/\qN 14 292 220 w' (w.heap.size+1) w.heap.size n 0 [] 0 0 0 0 (List.replicate n (Γb:List Value))/\qa w w':=by
 subst H;have J:1<=(n:Int):=by omega
 go_enter func113,ntmps113
 have M:=mkC n d G;go_wp2;refine bodyPost_ret (v:= .tuple #[γ (w.heap.size+1),ι 0]) (by simp[results,results113,go_sem]) rfl ?_;refine⟨rfl, ?_,ρ⟩;exact⟨qC η,qs (qB (qj _ _) rfl) _,τ,η,λc I=>by rw[List.eq_of_mem_replicate I];exact zokC,⟨d,G⟩,τ,η,λi hi=>by simp at hi⟩
section
open _root_.Go.Proofs.Tryz renaming func186->Ξb,ntmps186->Ξc,results186->Ξg,underlying220->Ξh
open _root_.Go.Proofs.YtdgippmmaponfaaGreat renaming Ν14->Ξa,F6->Ξd,Γb->Ξe,Ν220->Ξf
theorem Nc (w:World) (R A room first:Nat) (c:List Value) (T:List (List Value)) (I M J G:Int) (css:List (List Value)) (h:qN 14 292 220 w R A room first (c::T) I M J G css):
  Calls prog 186 #[γ R] w λe w'=>e= .returned (.tuple #[θ c.toArray,true])/\(∃co',qN 14 292 220 w' R A room ((first+1)%room) T I co' J G (css.set first Γb))/\qg (RgB R A) w w':=Ψ4
end
theorem UH (w:World) (R A room first:Nat) (q:List (List Value)) (Y ac ae ab:Int) (css:List (List Value)) (h:qN 14 292 220 w R A room first q Y ac ae ab css) (aA:q.length<room) (x:List Value) (N:x.length=14/\ ∀u∈x,u.oneCell'=true):
  Calls prog 185 #[γ R,θ x.toArray] w λe w'=>e= .returned (.tuple #[Γb,μ false,ι 0])/\(∃ci',qN 14 292 220 w' R A room first (q++[x]) ci' ac ae ab (css.set ((first+q.length)%room) x))/\qg (RgB R A) w w':=by
 have am:=κ h;have aI:R<w.heap.size:=qn h.ring;have aJ:A<w.heap.size:=qn h.row;have aL:(((w.alloc (.cells x.toArray 220)).alloc (.cells Γb 220)).alloc (.cells Γb 220)).cell? ⟨R,3,none⟩=some (μ false):=qb (qs (qs (qs h.ring _) _) _) 3 rfl;have aE:decide (q.length=room)=false:=by simp;omega
 clear h
 go_enter func185,ntmps185
 go_wp2_with (first | (go_at_call 103;((with_reducible refine(Hf (am.o.more (((qa.refl w).al _).al _ |>.al _))).mono ?_);rintro e U ⟨rfl,aR,aa⟩;rw[aE];have af:Hid (qa w U):=κ (by rw[aa];exact(((qa.refl w).al _).al _ |>.al _).dr _);have av:Hid (U.heap[w.heap.size]? =some (.cells x.toArray 220 (0,0))):=κ (by rw[aa];exact qr (qs (qs (qj _ _) _) _) _);have ak:Hid (U.heap[w.heap.size+1]? =some (.cells Γb 220 (0,0))):=κ (by rw[aa];exact qr (qs (qC η) _) _);have ao:Hid (U.heap[w.heap.size+2]? =some (.cells Γb 220 (0,0))):=κ (by rw[aa];exact qr (qC η) _);clear aa)))
 obtain⟨G,J⟩: ∃G,G=U:=⟨_,rfl⟩;have d:Hid (qN 14 292 220 G R A room first q Y ac ae ab css):=κ (by rw[J];exact am.o.more af.o);have aq:Hid (qg (RgB R A) w G):=κ (by rw[J];exact qg.of_more af.o);have an:Hid (G.heap[w.heap.size]? =some (.cells x.toArray 220 (0,0))):=κ (by rw[J];exact av.o);have au:Hid (G.heap[w.heap.size+1]? =some (.cells Γb 220 (0,0))):=κ (by rw[J];exact ak.o);have ai:Hid (G.heap[w.heap.size+2]? =some (.cells Γb 220 (0,0))):=κ (by rw[J];exact ao.o);have ax:q.length<room:=aA;rw[<-J];clear J af av ak ao;obtain⟨f,ah⟩: ∃f,Hid (f=first):=⟨_,κ rfl⟩;obtain⟨cs,ar⟩: ∃cs,Hid (cs=css):=⟨_,κ rfl⟩;rw[<-ah.o,<-ar.o] at d;have aH: ∀x:qt G,x.w'.cell? ⟨R,0,none⟩=some (δ (some ⟨A,0,none⟩) room room):=λx=>x.cell (qn d.o.ring) (qb d.o.ring 0 rfl)
 have aw: ∀x:qt G,x.w'.cell? ⟨R,1,none⟩=some (ι f):=λx=>x.cell (qn d.o.ring) (qb d.o.ring 1 rfl)
 have aC: ∀x:qt G,x.w'.cell? ⟨R,2,none⟩=some (ι q.length):=λx=>x.cell (qn d.o.ring) (qb d.o.ring 2 rfl)
 have aM:((f:Int)+(q.length:Int))%(room:Int)=(((f+q.length)%room:Nat):Int):=by rw[Int.natCast_emod];rfl
 have aG:(f+q.length)%room<room:=Nat.mod_lt _ τ;have hi:(((f+q.length)%room:Nat):Int)<(room:Int):=by omega
 have aQ:=d.o.pos;have aN:=d.o.fst;have aS:(f:Int)<=8:=by omega
 have aT:(q.length:Int)<=8:=by omega
 generalize aD:(f+q.length)%room=I at *;refine Qn G 21 22 [21] ?_
 iterate 19 (refine qE rfl rfl (qk ρ) ?_;intro K M;go_big_quiet_op;go_big_quiet_on)
 refine jh rfl rfl (qk ρ) 220 (.tmp 3) rfl w.heap.size 0 rfl x _ (λw' ay=>by obtain⟨y,rfl⟩:=ay;exact xy (qc y.h an.o)) underlying220 rfl (by rw[N.1];kernel_rfl) ?_;intro K M;go_simp;refine M _ ?_;clear M K
 refine Qq ?_
 refine zY rfl rfl ζ ?_;intro K M;refine zF 220 (.tmp 48) (.tmp 47) rfl A (I* 14) 220 cs.flatten.toArray x rfl rfl (qr d.o.row 1) (by rw[d.o.size,N.1];have:=Nat.mul_le_mul_right 14 (show I+1<=room by omega);omega) (by rw[N.1];kernel_rfl) N.2 ?_;refine⟨trivial, ?_⟩;go_simp;refine M _ _ ?_;clear M K aH aw aC;refine qA ?_;obtain⟨W6,H⟩:=ν ((G.drewN 1).setRow A (xQ cs.flatten (I* 14) x).toArray);have az:Hid (qg (RgB R A) w W6):=κ (by rw[<-H];exact(aq.o.drewN 1).row (Or.inr rfl) _);have O:Hid (W6.heap[R]? =some (.cells (jV A room f q.length Y ac ae ab) 292 (0,0))):=κ (by rw[<-H];exact qS (qr d.o.ring 1) _ d.o.ne);have aB:Hid (W6.heap[A]? =some (.cells (cs.set I x).flatten.toArray 220 (0,0))):=κ (by rw[<-H,<-JO cs I _ d.o.cl N.1 (by rw[d.o.len];exact aG)];exact jY (qr d.o.row 1) _);have ap:Hid (W6.heap[w.heap.size+1]? =some (.cells Γb 220 (0,0))):=κ (by rw[<-H];exact qS (qr au.o 1) _ τ);have aF:Hid (W6.heap[w.heap.size+2]? =some (.cells Γb 220 (0,0))):=κ (by rw[<-H];exact qS (qr ai.o 1) _ τ);rw[H];clear H aq an au ai;have aj:w.heap.size+2≠R:=by omega
 have ad:w.heap.size+1≠R:=by omega
 have aO:W6.cell? ⟨R,2,none⟩=some (ι q.length):=qb O.o 2 rfl;have aP:W6.frozen? ⟨R,2,none⟩=false:=qd O.o 2;have aK:W6.cell? ⟨R,4,none⟩=some (ι Y):=qb O.o 4 rfl;have aU:W6.frozen? ⟨R,4,none⟩=false:=qd O.o 4
 go_wp2_with (first | (refine yL (.load 220 (.tmp 7)) rfl ?_;refine vO rfl 220 (.tmp 7) rfl (w.heap.size+2) 220 Γb _ (qo (qo aF.o ⟨R,2,none⟩ _ aj) ⟨R,4,none⟩ _ aj) rfl underlying220 rfl ξ ?_) | (refine yL (.store 220 (.tmp 4) (.tmp 65)) rfl ?_;refine xW rfl 220 (.tmp 4) (.tmp 65) rfl (w.heap.size+1) 220 _ Γb (qo (qo ap.o ⟨R,2,none⟩ _ ad) ⟨R,4,none⟩ _ ad) rfl rfl ξ rfl (all_oneCell_toArray zokC.2) ?_))
 have ag:R≠A:=d.o.ne;refine bodyPost_ret (v:= .tuple #[Γb,μ false,ι 0]) (KW results185 _ _ (w.heap.size+1) 220 Γb _ _ _ rfl rfl rfl (jY (qo (qo ap.o ⟨R,2,none⟩ _ ad) ⟨R,4,none⟩ _ ad) _) underlying220 rfl ξ) rfl ?_;subst aD;obtain rfl:=ah.o;obtain rfl:=ar.o;refine⟨rfl,⟨wrap64 (Y+1),d.o.put ax N ?_ ?_⟩,((az.o.set (Or.inl rfl) _).set (Or.inl rfl) _).rowNew τ _⟩
 ·exact qS (qB (qp (qp O.o 2 _) 4 _) rfl) _ τ
 ·exact qS (qo (qo aB.o _ _ (Ne.symm ag)) _ _ (Ne.symm ag)) _ τ
theorem Ah (c:List Value) (h:c.length=14): ∃a0 a1 a2 a3 a4 a5 a6 a7 a8 a9 a10 a11 a12 a13,c=[a0,a1,a2,a3,a4,a5,a6,a7,a8,a9,a10,a11,a12,a13]:=by
 match c,h with
 | [a0,a1,a2,a3,a4,a5,a6,a7,a8,a9,a10,a11,a12,a13],_=>exact⟨a0,a1,a2,a3,a4,a5,a6,a7,a8,a9,a10,a11,a12,a13,rfl⟩
theorem YD {S:Nat->Prop} {w w':World} {base e n m:Nat} {v:Value} {xs:List Value} (h:w.ownsRow base e n v m xs) (a:qg S w w') (G: ∀b,base<=b-> ¬S b):w'.ownsRow base e n v m xs:=by
 obtain⟨d,H⟩:=h;refine⟨d, ?_⟩;rcases H with h | ⟨b,cap,cur,e1,hb,hg,rest⟩
 ·exact Or.inl h
 ·exact Or.inr ⟨b,cap,cur,e1,hb,a.blk hg (G b hb),rest⟩
theorem DP {w:World} {base e size n b:Nat} {v:Value} {xs:List Value} (h:w.ownsRow base e size v n xs) (d:v.ownBlock=some b):base<=b:=by
 rcases h.2 with ⟨rfl,_⟩ | ⟨g,cap,cur,rfl,G,_⟩
 ·cases d
 ·obtain rfl:g=b:=by injection d
  exact G
theorem BU {w:World} {base e size n:Nat} {v:Value} {xs:List Value} (h:w.ownsRow base e size v n xs): ∃oa cap,v= δ oa n cap:=by
 rcases h.2 with ⟨rfl,d⟩ | ⟨g,cap,cur,rfl,_⟩
 ·exact⟨none,0,by rw[d]⟩
 ·exact⟨_,cap,rfl⟩
theorem IO (w:World) (R A room first:Nat) (q:List (List Value)) (M J H I:Int) (css:List (List Value)) (h:qN 14 292 220 w R A room first q M J H I css):
  Calls prog 169 #[γ R] w λe w'=> ∃v,e= .returned v/\w'.ownsRow w.heap.size 220 14 v q.length q.flatten/\(∃first' cg' css',qN 14 292 220 w' R A room first' [] M J H cg' css')/\qg (RgB R A) w w':=by
 obtain⟨aO,aN,aP,aH,aI⟩:=info_parts (P:=prog) (e:=220) (z:= Γb) (size:=14) (bytes:=128) ξ;have aF:=κ h;have aT:R<w.heap.size:=qn h.ring;have aV:A<w.heap.size:=qn h.row;have aZ:w.cell? ⟨R,2,none⟩=some (ι q.length):=qb h.ring 2 rfl;have bb:(q.length:Int)<=8:=by have:=h.fits;have:=h.pos.2;omega
 have aK:=κ h.qall;clear h
 go_enter func169,ntmps169
 go_wp2
 go_loopw [3,8] (λu ah wr=> ∃(j f:Nat) (cs:List (List Value)),j<=q.length/\ah= ι j/\(∃ap aq au,u= δ ap aq au)/\wr.ownsRow w.heap.size 220 14 u j (q.take j).flatten/\qN 14 292 220 wr R A room f (q.drop j) M J H I cs/\qg (RgB R A) w wr) (λ_ ah _=>q.length-(intOf ah).toNat)
 case atStart=>exact⟨0,first,css,τ,rfl,⟨_,_,_,rfl⟩,World.ownsRow_nil w _ _ _,aF.o,qg.refl _ _⟩
 case round=>
  obtain⟨j,f,cs,aY,rfl,⟨ap,aq,au,rfl⟩,d,ar,ao⟩:=hrel;have an:=κ d;have G:=κ ar;have al:=κ ao;clear d ar ao;by_cases hlt:j<q.length
  ·have aj:q.drop j=q[j]::q.drop (j+1):=List.drop_eq_getElem_cons hlt;have ai:q.take (j+1)=q.take j++[q[j]]:=by rw[List.take_add_one,List.getElem?_eq_getElem hlt];rfl
   have Y:=aK.o q[j] (List.getElem_mem hlt);have aX:(j:Int)<(q.length:Int):=by omega
   obtain⟨c,aB⟩: ∃c,Hid (c=q[j]):=⟨_,κ rfl⟩;rw[<-aB.o] at aj ai Y;have aQ:=κ (aj▸G.o);have aA:=κ ai;have ba:c.toArray.size=14:=by simpa using Y.1
   clear aj ai G;obtain⟨a0,ad,N,a3,a4,a5,ae,ab,ac,a9,af,ag,U,aa,rfl⟩:=Ah c Y.1
   go_wp2_with (first | (go_at_call 211;(go_call F6 wr R A room f [a0,ad,N,a3,a4,a5,ae,ab,ac,a9,af,ag,U,aa] (q.drop (j+1)) M J H I cs aQ.o as e w5 ⟨rfl,aw,a5⟩;have aG:=κ aw;have aR:=κ a5;have O:=κ (YD an.o a5 (λb am e=>by rcases e with e | e<;>omega));have aC:Hid (w.heap.size<=w5.heap.size):=κ (Nat.le_trans al.o.size a5.size);clear aw a5)) | (at_builtin;refine wpList_append_own_at _ rfl (.tmp 10) (.tmp 13) 290 rfl w.heap.size 220 aO (Γb) 14 128 underlying290 aN aP aH aI rfl ζ _ j (q.take j).flatten rfl (YD O.o (qg.of_more (qa.alloc _ _)) (λb _ e=>e)) ⟨w5.heap.size,0,none⟩ 1 1 [a0,ad,N,a3,a4,a5,ae,ab,ac,a9,af,ag,U,aa] rfl rfl (λi u aD=>by have:=xy (cs:=[a0,ad,N,a3,a4,a5,ae,ab,ac,a9,af,ag,U,aa]) (t:=220) (qj w5 (.cells #[a0,ad,N,a3,a4,a5,ae,ab,ac,a9,af,ag,U,aa] 220)) i u aD;rw[Addr.add_mid];exact this) Y.2 (by unfold maxLen;omega) τ (by have:=aC.o;simp;omega) ?_;intro v6 w6 d ak aJ aS;have aL:=κ d;have aE:Hid (qg (RgB R A) w w6):=κ (((al.o.trans aR.o).alc _).grown ak (λb am=>DP O.o am));have az:Hid (qN 14 292 220 w6 R A room ((f+1)%room) (q.drop (j+1)) M J H I (cs.set f Γb)):=κ ((aG.o.more (qa.alloc _ _)).away (qg.of_grown ak) (λe=>by have:=DP O.o e;omega) (λe=>by have:=DP O.o e;omega));obtain⟨aU,aW,rfl⟩:=BU d;clear d ak aJ aS))
   go_roundw
   case rel=>exact⟨j+1,(f+1)%room,_,τ,by go_num,⟨_,_,_,rfl⟩,by rw[aA.o,List.flatten_append];simpa using aL.o,az.o,aE.o⟩
   case measure=>simp[intOf];omega
  ·obtain rfl:j=q.length:=by omega
   have bd:wr.cell? ⟨R,7,none⟩=some (ι I):=qb G.o.ring 7 rfl;have bc:wr.frozen? ⟨R,7,none⟩=false:=qd G.o.ring 7;go_wp2;go_ret;have ay:q.drop q.length=[]:=by simp
   have aM:q.take q.length=q:=by simp
   have av:=G.o;have ax:=an.o;rw[ay] at av;rw[aM] at ax;exact⟨_,rfl,YD ax ((qg.refl (λb=>b=R) _).set rfl _) (λb am e=>by omega),⟨_,_,_,av.drained _⟩,al.o.set (Or.inl rfl) _⟩
theorem Fm (i:Int) (c:List Value) (d:c.length=13) (w:World):Calls prog 170 #[θ (ι i::c).toArray] w λe w'=>e= .returned (ι i)/\qa w w':=by
 obtain⟨a0,Y,H,a3,a4,a5,J,I,N,a9,M,U,G,O,h⟩:=Ah (ι i::c) (by simp[d]);obtain⟨rfl,rfl⟩:a0= ι i/\c=[Y,H,a3,a4,a5,J,I,N,a9,M,U,G,O]:=by
  injection h with h1 h2
  exact⟨h1.symm,h2⟩
 clear h d
 go_enter func170,ntmps170
 go_wp2;go_ret;exact⟨rfl,ρ⟩
section
open _root_.Go.Proofs.Tryz renaming func168->Ξa,ntmps168->Ξb,underlying220->Ξf
open _root_.Go.Proofs.YtdgippmmaponfaaGreat renaming Fm->Ξc,Ν14->Ξd,Ν220->Ξe,Γb->Ξg
theorem Nm (w:World) (v:Value) (q:List (List Value)) (base:Nat) (row:w.ownsRow base 220 14 v q.length q.flatten) (U: ∀c∈q,∃i r,c= ι i::r/\r.length=13) (ak: ∀c∈q,∀u∈c,u.oneCell'=true) (aN:q.length<=8):
  Calls prog 168 #[v,.func (.func 170) #[] #[]] w λe w'=>(∃v',e= .returned v'/\w'.ownsRow w.heap.size 3 1 v' (q.map idN).length ((q.map idN).map (Value.int .i64)))/\qa w w':=Ψ6
end
end Go.Proofs.YtdgippmmaponfaaGreat
