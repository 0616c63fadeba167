/- Q -/
import Derived.Test.YteabgcollokgjaaGreatDoorQP04
set_option linter.unusedSimpArgs false
set_option linter.unusedVariables false
set_option maxRecDepth 100000
set_option maxHeartbeats 32000000
open Go.Lib (hid)
namespace Go.Proofs.YteabgcollokgjaaGreatDoor
section
open Go.RowKit Go.MapKept Go.ChangeMaps
theorem look_some {w:World} {b:Nat} {E:Files} (h:FM w b E) {nm:ByteArray} (hn:okS nm) {v:En} (hv:asc E nm=some v):(Instr.lookup 133 (.map (some b)) (.string nm) false).run Tryz.prog w= .ok (.slice v.1.A v.1.len v.1.cap) w:=by
 have:=MapIs.look mkS Tryz.underlying133 (zero22 _) h.1 hn false;rw [show (Value.string nm)=kS nm from rfl,this,hv];rfl
theorem FM.at_ {w:World} {b:Nat} {E:Files} (h:FM w b E) {nm:ByteArray} {v:En} (hv:asc E nm=some v):RB w v.1 v.2:=h.2.1 (nm,v) (mem_of_asc hv)
theorem DevN.at_ {w:World} {p:Nat} {r:Rp} {s:St} {N:FF} (h:DevN w p r s N) {nm:ByteArray} {v:En} (hv:asc r.EN nm=some v):N nm=some v.2:=by
 rw [<- h.sN,asc_plain,hv];rfl
theorem Append_any (p:Nat) (r:Rp) (s:St) (nm:ByteArray) (A:Option Addr) (c:Nat) (bs:List UInt8) (w:World) (h:DV w p r s) (hn:okS nm) (hs:SB w A bs) (hL:s.ops.length<=1000000) (hbs:bs.length<=1152921504606846976):
 Calls Tryz.prog 240 #[.pointer (some ⟨p,0,none⟩),.string nm,.slice A bs.length c] w (ReqPost p r s ⟨.add,nm,ByteArray.empty,bs,true⟩ w):=by
 have HD:Hid (DV (w.alloc (.cells #[.string nm] 9)) p r s):=h.on (bel1 _ _);have H:=hid h;have Hn:=hid hn;have HS:Hid (SB (w.alloc (.cells #[.string nm] 9)) A bs):=hs.on_lt (bel1 _ _);have HC:Hid (Cnt s.now r.EN.length):=h.dev.cnt;have HH:Hid ((asc r.EN nm).isSome=(s.now nm).isSome):=h.dev.has nm;have hL2:r.L.length<=1000000:=by rw [<- h.dev.sO] at hL;simpa using hL
 have hplt:p<w.heap.size:=h.dev.cells.lt;have k1:w.cell? ⟨p,1,none⟩=some (.map (some r.nb)):=(h.dev.cells.cell 1).trans rfl;clear h hn hL hs;by_cases hz:checkP s.dn (s.now nm).isSome [nm]=0
 · have hdn:s.dn=false:=by
    cases hd:s.dn with
    | false=>rfl
    | true=>rw [hd] at hz;simp [checkP] at hz
   have hnb:nameB nm=true:=by
    cases hd:nameB nm with
    | true=>rfl
    | false=>rw [hdn] at hz;simp [checkP,hd] at hz
   have hhas:(s.now nm).isSome=true:=by
    cases hd:(s.now nm).isSome with
    | true=>rfl
    | false=>rw [hdn,hd] at hz;simp [checkP,hnb] at hz
   obtain ⟨v,hv⟩:∃ v,asc r.EN nm=some v:=Option.isSome_iff_exists.1 (by rw [HH.out];exact hhas);have HN:Hid (s.now nm=some v.2):=H.out.dev.at_ hv;have hlook:(Instr.lookup 133 (.map (some r.nb)) (.string nm) false).run Tryz.prog (w.alloc (.cells #[.string nm] 9))= .ok (.slice v.1.A v.1.len v.1.cap) (w.alloc (.cells #[.string nm] 9)):=look_some HD.out.dev.now Hn.out hv;have HV:Hid (v.2.length=v.1.len):=(H.out.dev.now.at_ hv).1
   have hvl:v.1.len<=4194304:=by
    have:=H.out.ok.now.len nm;rw [HN.out] at this;rw [<- HV.out];exact this
   have HG:Hid (gate s r.EN.length ⟨.add,nm,ByteArray.empty,bs,true⟩=if 4194304<v.1.len+bs.length then 302 else 0):=by
    simp [Hid,gate,hdn,hnb,HN.out,HV.out]
   have hz':checkP s.dn (asc r.EN nm).isSome [nm]=0:=by rw [HH.out];exact hz
   have Hz:=hid hz';clear hz hz' hdn hnb hhas hv;by_cases hbig:4194304<v.1.len+bs.length
   · have HGG:Hid (gate s r.EN.length ⟨.add,nm,ByteArray.empty,bs,true⟩=302):=by rw [Hid,HG.out,if_pos hbig]
     go_enter Tryz.func240,Tryz.ntmps240;go_wp2_with fail
     refine (check_any p _ _ s.dn s.f r.nb r.EN nm w.heap.size 0 1 [nm] _ HD.out.dev.cells HD.out.dev.now Hn.out (oks1 Hn.out) (by simp) (nm_cells w 9 [nm])).mono ?_;rw [Hz.out];rintro e w1 ⟨rfl,rfl⟩;go_wp2_with fail
     go_ret;exact req_refused (bel1 w (.cells #[.string nm] 9)) H.out HC.out HGG.out (by decide)
   have HGG:Hid (gate s r.EN.length ⟨.add,nm,ByteArray.empty,bs,true⟩=0):=by rw [Hid,HG.out,if_neg hbig]
   go_enter Tryz.func240,Tryz.ntmps240;go_wp2_with fail
   refine (check_any p _ _ s.dn s.f r.nb r.EN nm w.heap.size 0 1 [nm] _ HD.out.dev.cells HD.out.dev.now Hn.out (oks1 Hn.out) (by simp) (nm_cells w 9 [nm])).mono ?_;rw [Hz.out];rintro e w1 ⟨rfl,rfl⟩;go_wp2_with fail
   refine (CloneB_any A c bs _ HS.out (by omega)).mono ?_;rintro e w2 ⟨d,rfl,hr2,hf2,hb2⟩;have R2:=hid hr2;have B2:Hid (Below w.heap.size w w2):=(bel1 w (.cells #[.string nm] 9)).trans (hb2.mono (by simp));have S2:Hid (Safe r.EN d):=safe_new HD.out.dev.now hf2;have X2:Hid (∀ g,blk d=some g->w.heap.size<=g):=fun g hg=>Nat.le_trans (by simp) (hf2 g hg);have D2:Hid (DV w2 p r s):=H.out.on B2.out;clear hr2 hf2 hb2;unfold vB;go_wp2_with fail
   refine (do_any p r s ⟨.add,nm,ByteArray.empty,bs,true⟩ d _ D2.out.dev Hn.out okS_e R2.out S2.out H.out.ok.f0 H.out.ok.f1 hL2 (by have:=H.out.ok.now.len nm;simp only;omega)).mono ?_;intro e w3 hd;obtain ⟨v,rfl,hr⟩:=req_of_do B2.out H.out.ok HC.out HGG.out Hn.out okS_e (by simp only;omega) X2.out hd;have HR:=hid hr;clear hd hr;go_wp2_with fail
   go_ret;exact HR.out
 obtain ⟨v,Hv⟩:∃ v,Hid (checkP s.dn (asc r.EN nm).isSome [nm]=v):=⟨_,rfl⟩;have hv:v≠0:=by rw [<- Hv.out,HH.out];exact hz
 have hb:(v !=0)=true:=by simpa using hv
 have HG:Hid (gate s r.EN.length ⟨.add,nm,ByteArray.empty,bs,true⟩=v):=by
  rw [HH.out] at Hv;have hv':=Hv.out;simp only [checkP,gate,List.all_cons,List.all_nil,Bool.and_true] at hv' |-; show (if s.dn=true then (303:Int) else _)=v;split at hv'
  · rename_i hd;simp only [hd,if_true] at *; exact hv'
  rename_i hd
  split at hv'
  · rename_i hnm
    split at hv'
    · omega
    rename_i hsm
    simp only [hd,hnm,hsm] at *; simpa using hv'
  rename_i hnm;simp only [hd,hnm] at *; simpa using hv'
 clear hz;go_enter Tryz.func240,Tryz.ntmps240;go_wp2_with fail
 refine (check_any p _ _ s.dn s.f r.nb r.EN nm w.heap.size 0 1 [nm] _ HD.out.dev.cells HD.out.dev.now Hn.out (oks1 Hn.out) (by simp) (nm_cells w 9 [nm])).mono ?_;rw [Hv.out];rintro e w1 ⟨rfl,rfl⟩;go_wp2_with fail
 go_ret;exact req_refused (bel1 w (.cells #[.string nm] 9)) H.out HC.out HG.out hv
def readE (s:St) (nm:ByteArray):Int:=checkP s.dn (s.now nm).isSome [nm]
def readB (s:St) (nm:ByteArray):List UInt8:=if readE s nm=0 then (s.now nm).getD [] else []
def ReadPost (s:St) (nm:ByteArray) (w:World) (e:Ending) (w':World):Prop:=
 ∃ d,e= .returned (.tuple #[vB d,.int .i64 (readE s nm)])/\RB w' d (readB s nm)/\(∀ g,blk d=some g->w.heap.size<=g)/\Below w.heap.size w w'
theorem Read_any (p:Nat) (r:Rp) (s:St) (nm:ByteArray) (w:World) (h:DV w p r s) (hn:okS nm):
 Calls Tryz.prog 38 #[.pointer (some ⟨p,0,none⟩),.string nm] w (ReadPost s nm w):=by
 have HD:Hid (DV (w.alloc (.cells #[.string nm] 9)) p r s):=h.on (bel1 _ _);have H:=hid h;have Hn:=hid hn;have HH:Hid ((asc r.EN nm).isSome=(s.now nm).isSome):=h.dev.has nm;have hplt:p<w.heap.size:=h.dev.cells.lt;have k1:w.cell? ⟨p,1,none⟩=some (.map (some r.nb)):=(h.dev.cells.cell 1).trans rfl;clear h hn;by_cases hz:checkP s.dn (s.now nm).isSome [nm]=0
 · have hhas:(s.now nm).isSome=true:=by
    cases hd:(s.now nm).isSome with
    | true=>rfl
    | false=>
     rw [hd] at hz;simp only [checkP] at hz;split at hz
     · omega
     split at hz
     · simp at hz
     omega
   obtain ⟨v,hv⟩:∃ v,asc r.EN nm=some v:=Option.isSome_iff_exists.1 (by rw [HH.out];exact hhas);have HN:Hid (s.now nm=some v.2):=H.out.dev.at_ hv;have hlook:(Instr.lookup 133 (.map (some r.nb)) (.string nm) false).run Tryz.prog (w.alloc (.cells #[.string nm] 9))= .ok (.slice v.1.A v.1.len v.1.cap) (w.alloc (.cells #[.string nm] 9)):=look_some HD.out.dev.now Hn.out hv;have HR:Hid (RB (w.alloc (.cells #[.string nm] 9)) v.1 v.2):=HD.out.dev.now.at_ hv
   have hvl:v.2.length<=4194304:=by
    have:=H.out.ok.now.len nm;rw [HN.out] at this;exact this
   obtain ⟨⟨A,n,c⟩,bs⟩:=v;obtain rfl:bs.length=n:=HR.out.1;have hz':checkP s.dn (asc r.EN nm).isSome [nm]=0:=by rw [HH.out];exact hz
   have Hz:=hid hz';have HE:Hid (readE s nm=0/\readB s nm=bs):=⟨hz,by rw [readB,readE,if_pos hz,HN.out];rfl⟩;clear hz hz' hhas hv;go_enter Tryz.func38,Tryz.ntmps38;go_wp2_with fail
   refine (check_any p _ _ s.dn s.f r.nb r.EN nm w.heap.size 0 1 [nm] _ HD.out.dev.cells HD.out.dev.now Hn.out (oks1 Hn.out) (by simp) (nm_cells w 9 [nm])).mono ?_;rw [Hz.out];rintro e w1 ⟨rfl,rfl⟩;go_wp2_with fail
   refine (CloneB_any A c bs _ HR.out.src (by omega)).mono ?_;rintro e w2 ⟨d,rfl,hr2,hf2,hb2⟩;have R2:=hid hr2;have F2:Hid (∀ g,blk d=some g->w.heap.size<=g):=fun g hg=>Nat.le_trans (by simp) (hf2 g hg);have B2:Hid (Below w.heap.size w w2):=(bel1 w (.cells #[.string nm] 9)).trans (hb2.mono (by simp));clear hr2 hf2 hb2;go_wp2_with fail
   go_ret2;rw [ReadPost,HE.out.1,HE.out.2];exact ⟨d,rfl,R2.out,F2.out,B2.out⟩
 obtain ⟨v,Hv⟩:∃ v,Hid (checkP s.dn (asc r.EN nm).isSome [nm]=v):=⟨_,rfl⟩;have hv:v≠0:=by rw [<- Hv.out,HH.out];exact hz
 have hb:(v !=0)=true:=by simpa using hv
 have HE:Hid (readE s nm=v/\readB s nm=[]):=⟨by rw [readE, <- HH.out];exact Hv.out,by simp [readB,readE,hz]⟩;clear hz;go_enter Tryz.func38,Tryz.ntmps38;go_wp2_with fail
 refine (check_any p _ _ s.dn s.f r.nb r.EN nm w.heap.size 0 1 [nm] _ HD.out.dev.cells HD.out.dev.now Hn.out (oks1 Hn.out) (by simp) (nm_cells w 9 [nm])).mono ?_;rw [Hv.out];rintro e w1 ⟨rfl,rfl⟩;go_wp2_with fail
 go_ret2;rw [ReadPost,HE.out.1,HE.out.2];exact ⟨⟨none,0,0⟩,rfl,vd_rb _,(fun g hg=>by cases hg),bel1 _ _⟩
theorem dev_mk {w:World} {p kb nb:Nat} {EK EN:Files} {dn:Bool} {f:Int} {K:FF} (hc:IsB w p 136 (vD (.map (some kb)) (.map (some nb)) (.slice none 0 0) dn f)) (hk:FM w kb EK) (hn:FM w nb EN) (hne:kb≠nb) (hs:∀ e∈EK,Safe EN e.2.1)
 (h1:∀ n,asc (plain EK) n=K n) (h2:∀ n,asc (plain EN) n=K n):Dev w p ⟨kb,nb,EK,EN,none,0,[]⟩ ⟨K,[],dn,f⟩ where
 cells:=hc
 kept:=hk
 now:=hn
 two:=hne
 pend:=World.ownsRow_nil _ _ _ _
 ops:=by simp
 safe:=hs
 sK:=h1
 sO:=rfl
 sN:=h2
theorem FM.safe {w:World} {b:Nat} {E:Files} (h:FM w b E):∀ e∈E,Safe E e.2.1:=by
 intro e he q hq hb;obtain ⟨c,hc,c1,c2,_⟩:=mem_rooms.1 hq;have:=FM.own h.2.2 hc he c1 hb;subst this;omega
theorem FM.setp {w:World} {b p i:Nat} {E:Files} {t:TypeId} {cs:Array Value} (h:FM w b E) (hp:IsB w p t cs) (ht:t≠5) (u:Value):FM (w.setCell ⟨p,i,none⟩ u) b E:=by
 have hg:w.grownBy (w.setCell ⟨p,i,none⟩ u) (some p):=g_set (p:=⟨p,i,none⟩) (g_refl _ _) (.inl rfl) _;exact h.kept (hg.block b h.1.lt (fun e=>by injection e with e;subst e;exact is_map h.1 hp)) (fun e he hr=>hr.grown hg (RB.ne_cell hp ht hr))
theorem Ok.none {K:FF} {dn:Bool} {f:Int} (h:Small K) (h0:0<=f) (h1:f<=9223372036854775807):Ok ⟨K,[],dn,f⟩:=⟨h0,h1,fun k=>by simpa using h,by simp⟩
def St.new:St:=⟨fun _=>none,[],false,0⟩
theorem Small.none:Small (fun _=>none):=⟨by simp,0,by omega,[],by simp,by simp,rfl⟩
theorem New_any (w:World):Calls Tryz.prog 21 #[] w (fun e w'=>e= .returned (.pointer (some ⟨w.heap.size+2,0,none⟩))/\DV w' (w.heap.size+2) ⟨w.heap.size,w.heap.size+1,[],[],none,0,[]⟩ St.new/\Below w.heap.size w w'):=by
 have hmm:= @run_makeMap Tryz.prog;go_enter Tryz.func21,Tryz.ntmps21;go_wp2_with fail
 go_ret;have b1:=bel1 w (.map #[] 0);have b2:=bel1 (w.alloc (.map #[] 0)) (.map #[] 0);have hs:((w.alloc (.map #[] 0)).alloc (.map #[] 0)).heap.size=w.heap.size+2:=by simp
 have hcells:IsB (((w.alloc (.map #[] 0)).alloc (.map #[] 0)).alloc (.cells (vD (.map (some w.heap.size)) (.map (some (w.heap.size+1))) (.slice none 0 0) false 0) 136)) (w.heap.size+2) 136 (vD (.map (some w.heap.size)) (.map (some (w.heap.size+1))) (.slice none 0 0) false 0):=by
  have:=IsB.new ((w.alloc (.map #[] 0)).alloc (.map #[] 0)) 136 (vD (.map (some w.heap.size)) (.map (some (w.heap.size+1))) (.slice none 0 0) false 0);rwa [hs] at this
 have b3:=bel1 ((w.alloc (.map #[] 0)).alloc (.map #[] 0)) (.cells (vD (.map (some w.heap.size)) (.map (some (w.heap.size+1))) (.slice none 0 0) false 0) 136);have k1:FM (w.alloc (.map #[] 0)) w.heap.size []:=⟨MapIs.made w,by simp,List.Pairwise.nil⟩
 have k2:FM ((w.alloc (.map #[] 0)).alloc (.map #[] 0)) (w.heap.size+1) []:=by
  have:FM ((w.alloc (.map #[] 0)).alloc (.map #[] 0)) (w.alloc (.map #[] 0)).heap.size []:=⟨MapIs.made _,by simp,List.Pairwise.nil⟩;simpa using this
 refine ⟨rfl,⟨dev_mk hcells ((k1.on b2).on b3) (k2.on b3) (by omega) (by simp) (fun n=>rfl) (fun n=>rfl),Ok.none Small.none (by decide) (by decide)⟩,?_⟩;exact (b1.trans (b2.mono (by simp))).trans (b3.mono (by simp;omega))
theorem Down_any (p:Nat) (r:Rp) (s:St) (w:World) (h:DV w p r s):Calls Tryz.prog 82 #[.pointer (some ⟨p,0,none⟩)] w (fun e w'=>e= .returned (.bool s.dn)/\w=w'):=by
 have k3:w.cell? ⟨p,3,none⟩=some (.bool s.dn):=(h.dev.cells.cell 3).trans rfl;clear h;go_enter Tryz.func82,Tryz.ntmps82;go_wp2_with fail
 go_ret;exact ⟨rfl,rfl⟩
def Goes (p:Nat) (r:Rp) (s':St) (v:Value) (w:World) (e:Ending) (w':World):Prop:=e= .returned v/\∃ r',DV w' p r' s'/\Step w w' p r r'
theorem Step.cell {w w':World} {p:Nat} {r:Rp} (hg:w.grownBy w' (some p)):Step w w' p r r:=⟨Ch.ones (Below.refl _ _) hg (.inl rfl),fun _ hi=> .inl hi,Roomy.refl _ _,fun _ hd=> .inr (From.old hd)⟩
theorem Fuse_any (p:Nat) (r:Rp) (s:St) (n:Int) (w:World) (h:DV w p r s) (hn:n<=9223372036854775807):Calls Tryz.prog 50 #[.pointer (some ⟨p,0,none⟩),.int .i64 n] w (Goes p r { s with f:=max n 0 } (.tuple #[]) w):=by
 have H:=hid h;have k4:w.cell? ⟨p,4,none⟩=some (.int .i64 s.f):=(h.dev.cells.cell 4).trans rfl;have f4:w.frozen? ⟨p,4,none⟩=false:=h.dev.cells.frozen 4;clear h
 have fin:∀ x:Int,Hid (max n 0=x)->Hid (0<=x/\x<=9223372036854775807)->Goes p r { s with f:=max n 0 } (.tuple #[]) w (.returned (.tuple #[])) (w.setCell ⟨p,4,none⟩ (.int .i64 x)):=fun x hx hx2=>by
  have hg:w.grownBy (w.setCell ⟨p,4,none⟩ (.int .i64 x)) (some p):=g_set (p:=⟨p,4,none⟩) (g_refl _ _) (.inl rfl) _;rw [hx.out];exact ⟨rfl,r,⟨H.out.dev.cell (dn:=s.dn) (f:=x) hg (H.out.dev.cells.set_ 4 _),⟨hx2.out.1,hx2.out.2,H.out.ok.pre,H.out.ok.ops⟩⟩,Step.cell hg⟩
 have Fin:=hid fin;clear fin;by_cases h0:n<0
 · have e:Hid (max n 0=0):=by rw [Hid];omega
   go_enter Tryz.func50,Tryz.ntmps50;go_wp2_with fail
   go_end0;exact Fin.out 0 e ⟨by omega,by omega⟩
 have e:Hid (max n 0=n):=by rw [Hid];omega
 have h0':0<=n:=by omega
 go_enter Tryz.func50,Tryz.ntmps50;go_wp2_with fail
 go_end0;exact Fin.out n e ⟨by omega,by omega⟩
def syncE (s:St):Int:=if s.dn then 303 else if s.f=1 then 303 else 0
def syncS (s:St):St:=if s.dn then s else if s.f=1 then s.cut else ⟨s.now,[],false,burnF s.f⟩
theorem Ok.sync {s:St} (h:Ok s):Ok ⟨s.now,[],false,burnF s.f⟩:=Ok.none h.now (by have:=h.f0;simp only [burnF];split<;>omega) (by have:=h.f1;simp only [burnF];split<;>omega)
theorem Sync_any (p:Nat) (r:Rp) (s:St) (w:World) (h:DV w p r s) (hL:s.ops.length<=1000000):Calls Tryz.prog 137 #[.pointer (some ⟨p,0,none⟩)] w (Goes p r (syncS s) (.int .i64 (syncE s)) w):=by
 have H:=hid h;have k3:w.cell? ⟨p,3,none⟩=some (.bool s.dn):=(h.dev.cells.cell 3).trans rfl;have hL2:r.L.length<=1000000:=by rw [<- h.dev.sO] at hL;simpa using hL
 have h0:=h.ok.f0;have h1:=h.ok.f1;clear h hL;cases hd:s.dn with
 | true=>
  rw [hd] at k3;have e1:Hid (syncE s=303/\syncS s=s):=by simp [Hid,syncE,syncS,hd]
  clear hd;go_enter Tryz.func137,Tryz.ntmps137;go_wp2_with fail
  go_ret;rw [e1.out.1,e1.out.2];exact ⟨rfl,r,H.out,Step.same (Below.refl _ _)⟩
 | false=>
  rw [hd] at k3;have Hd:=hid hd;clear hd;by_cases hf:s.f=1
  · have Hf:=hid hf;have hb:decide (s.f=1)=true:=by simpa using hf
    have e1:Hid (syncE s=303/\syncS s=s.cut):=by simp [Hid,syncE,syncS,Hd.out,hf]
    clear hf;go_enter Tryz.func137,Tryz.ntmps137;go_wp2_with (go_at_call 182;refine (burn_any p _ _ _ s.dn s.f _ H.out.dev.cells h0 h1).mono ?_;rintro e w1 ⟨he,hc1,hg1,hz1⟩;rw [hb] at he;subst he;have C1:=hid hc1;have G1:=hid hg1;clear hc1 hg1 hz1)
    go_ret;rw [e1.out.1,e1.out.2];have hc:=C1.out;rw [show burnD s.dn s.f=true by simp [burnD,Hf.out],show burnF s.f=0 by simp [burnF,Hf.out]] at hc;exact ⟨rfl,r,⟨H.out.dev.cell G1.out hc,H.out.ok.cut⟩,Step.cell G1.out⟩
  have Hf:=hid hf;have hb:decide (s.f=1)=false:=by simpa using hf
  have e1:Hid (syncE s=0/\syncS s=⟨s.now,[],false,burnF s.f⟩):=by simp [Hid,syncE,syncS,Hd.out,hf]
  have e2:Hid (burnD s.dn s.f=false):=by rw [Hid];simp [burnD,Hd.out,hf]
  clear hf;cases hL0:r.L with
  | nil=>
   have Hn:=hid hL0
   have Hp:Hid (∀ (w1:World),DevN w1 p r { s with dn:=burnD s.dn s.f,f:=burnF s.f } s.now->DV w1 p r ⟨s.now,[],false,burnF s.f⟩):=fun w1 h1=>by
    have hops:s.ops=[]:=by rw [<- H.out.dev.sO,Hn.out];rfl
    have hnow:s.now=s.K:=by rw [St.now,hops];rfl
    refine ⟨?_,H.out.ok.sync⟩;rw [hnow] at h1 |-; exact ⟨by rw [<- e2.out];exact h1.cells,h1.kept,h1.now,h1.two,h1.pend,h1.ops,h1.safe,h1.sK,by rw [h1.sO];exact hops,h1.sN⟩
   clear hL0;go_enter Tryz.func137,Tryz.ntmps137;go_wp2_with (go_at_call 182;refine (burn_any p _ _ _ s.dn s.f _ H.out.dev.cells h0 h1).mono ?_;rintro e w1 ⟨he,hc1,hg1,hz1⟩;rw [hb] at he;subst he;have C1:=hid hc1;have G1:=hid hg1;have k2:w1.cell? ⟨p,2,none⟩=some (.slice r.A 0 r.c):=(by rw [hc1.cell];show some (Value.slice r.A r.L.length r.c)=_;rw [Hn.out];rfl);clear hc1 hg1 hz1)
   go_ret;rw [e1.out.1,e1.out.2];exact ⟨rfl,r,Hp.out _ (H.out.dev.cell G1.out C1.out),Step.cell G1.out⟩
  | cons x L=>
   have hpos:0<r.L.length:=by rw [hL0];simp
   clear hL0;go_enter Tryz.func137,Tryz.ntmps137
   go_wp2_with (first
    | (go_at_call 182;refine (burn_any p _ _ _ s.dn s.f _ H.out.dev.cells h0 h1).mono ?_;rintro e w1 ⟨he,hc1,hg1,hz1⟩;rw [hb] at he;subst he;have C1:=hid hc1;have D1:=hid (H.out.dev.cell hg1 hc1);have G1:=hid hg1;have k2:w1.cell? ⟨p,2,none⟩=some (.slice r.A r.L.length r.c):=(hc1.cell 2).trans rfl;have k1:w1.cell? ⟨p,1,none⟩=some (.map (some r.nb)):=(hc1.cell 1).trans rfl;clear hc1 hg1 hz1)
    | (go_at_call 160;refine (mapsClone_any r.nb r.EN _ D1.out.now).mono ?_;rintro e w2 ⟨rfl,hf2,hb2,hz2⟩;have F2:=hid hf2;have B2:=hid hb2;have C2:=hid (C1.out.on hb2);have j0:w2.frozen? ⟨p,0,none⟩=false:=(C1.out.on hb2).frozen 0;have j2:w2.frozen? ⟨p,2,none⟩=false:=(C1.out.on hb2).frozen 2;have i0:w2.cell? ⟨p,0,none⟩=some (.map (some r.kb)):=((C1.out.on hb2).cell 0).trans rfl;have i2:w2.cell? ⟨p,2,none⟩=some (.slice r.A r.L.length r.c):=((C1.out.on hb2).cell 2).trans rfl;clear hf2 hb2 hz2))
   go_ret;rw [e1.out.1,e1.out.2];have hcc:=(C2.out.set_ 0 (.map (some w1.heap.size))).set_ 2 (.slice none 0 0);have hg2:w2.grownBy ((w2.setCell ⟨p,0,none⟩ (.map (some w1.heap.size))).setCell ⟨p,2,none⟩ (.slice none 0 0)) (some p):=g_trans (g_set (p:=⟨p,0,none⟩) (g_refl _ _) (.inl rfl) _) (g_set (p:=⟨p,2,none⟩) (g_refl _ _) (.inl rfl) _);have hfk:=(F2.out.setp (i:=0) C2.out (by decide) (.map (some w1.heap.size))).setp (i:=2) (C2.out.set_ 0 (.map (some w1.heap.size))) (by decide) (.slice none 0 0);have hfn:=((D1.out.now.on B2.out).setp (i:=0) C2.out (by decide) (.map (some w1.heap.size))).setp (i:=2) (C2.out.set_ 0 (.map (some w1.heap.size))) (by decide) (.slice none 0 0);refine ⟨rfl,⟨w1.heap.size,r.nb,r.EN,r.EN,none,0,[]⟩,⟨dev_mk ?_ hfk hfn (fun e=>?_) D1.out.now.safe D1.out.sN D1.out.sN,H.out.ok.sync⟩,⟨?_,?_,Roomy.refl _ _,fun d' hd'=> .inr (From.old ?_)⟩⟩
   · rw [e2.out] at hcc;exact hcc
   · have:=D1.out.now.1.lt;omega
   · exact Ch.then (Ch.ones (Below.refl _ _) G1.out (.inl rfl)) (Ch.ones B2.out hg2 (.inl rfl))
   · rintro i (rfl | rfl | rfl | e)
     · exact .inl (.inl rfl)
     · exact .inr G1.out.size
     · exact .inl (.inr (.inr (.inl rfl)))
     simp [Value.ownBlock] at e
   rcases hd' with h | h | ⟨y,hy,_⟩
   · exact .inr (.inl h)
   · exact .inr (.inl h)
   cases hy
def POp.cutTo (o:POp) (t:Int):POp:={ o with bs:=o.bs.take t.toNat }
def foldK (s:St) (k:Nat):FF:=(s.ops.take k).foldl applyF s.K
def lossF (s:St) (keep torn:Int):FF:=if keep<0 then s.K else match s.ops[keep.toNat]? with
 | some o=>if o.tears=true/\0<=torn then applyF (foldK s keep.toNat) (o.cutTo torn) else foldK s keep.toNat
 | none=>s.now
def decideS (s:St) (keep torn:Int):St:=⟨lossF s keep torn,[],s.dn,s.f⟩
theorem foldK_succ (s:St) {k:Nat} {o:POp} (h:s.ops[k]? =some o):foldK s (k+1)=applyF (foldK s k) o:=by
 have hk:=(List.getElem?_eq_some_iff.1 h);unfold foldK;rw [List.take_succ_eq_append_getElem hk.1,List.foldl_append,hk.2];rfl
theorem foldK_all (s:St):foldK s s.ops.length=s.now:=by rw [foldK,List.take_length];rfl
theorem loss_none (s:St) (keep torn:Int) (h:s.ops=[]):lossF s keep torn=s.K:=by
 unfold lossF St.now;rw [h];split<;>rfl
theorem loss_stop (s:St) (keep torn:Int) (k:Nat) {o:POp} (ho:s.ops[k]? =some o) (h1:keep<=k) (h2:k=0∨(k:Int)<=keep) (h3:¬ ((k:Int)=keep/\o.tears=true/\0<=torn)):lossF s keep torn=foldK s k:=by
 unfold lossF;by_cases hn:keep<0
 · rw [if_pos hn];rcases h2 with rfl | h2
   · rfl
   omega
 rw [if_neg hn];obtain rfl:keep.toNat=k:=by omega
 rw [ho];simp only;rw [if_neg (fun hh=>h3 ⟨by omega,hh⟩)]
theorem loss_torn (s:St) (keep torn:Int) (k:Nat) {o:POp} (ho:s.ops[k]? =some o) (h1:(k:Int)=keep) (h2:o.tears=true) (h3:0<=torn):lossF s keep torn=applyF (foldK s k) (o.cutTo torn):=by
 unfold lossF;obtain rfl:keep.toNat=k:=by omega
 rw [if_neg (by omega),ho];simp only;rw [if_pos ⟨h2,h3⟩]
theorem loss_all (s:St) (keep torn:Int) (h:(s.ops.length:Int)<=keep):lossF s keep torn=s.now:=by
 unfold lossF;rw [if_neg (by omega),List.getElem?_eq_none (by omega)]
theorem cnt_torn {f:FF} (o:POp) (t:Int) {c:Nat} (h:Cnt (applyF f o) c):Cnt (applyF f (o.cutTo t)) c:=by
 obtain ⟨L,h1,h2,h3⟩:=h;refine ⟨L,h1,fun m=>(h2 m).trans ?_,h3⟩;obtain ⟨k,nm,to,bs,tears⟩:=o;cases k
 · simp only [applyF,POp.cutTo,FF.set];by_cases e:nm=m<;>simp [e]
 · simp only [applyF,POp.cutTo,FF.set];by_cases e:nm=m<;>simp [e]
 · rfl
 rfl
theorem small_torn {f:FF} (o:POp) (t:Int) (h:Small (applyF f o)):Small (applyF f (o.cutTo t)):=by
 obtain ⟨h1,c,hc,hc2⟩:=h;refine ⟨fun n bs hn=>?_,c,hc,cnt_torn o t hc2⟩;have key:∀ bs',applyF f o n=some bs'->bs'.length<=4194304:=fun bs' hh=>h1 n bs' hh;obtain ⟨k,nm,to,bs0,tears⟩:=o;cases k
 · have hn:(if nm=n then some (bs0.take t.toNat) else f n)=some bs:=hn;have key:∀ bs',(if nm=n then some bs0 else f n)=some bs'->bs'.length<=4194304:=key;by_cases e:nm=n
   · rw [if_pos e] at hn;injection hn with hn;subst hn;rw [if_pos e] at key;have:=key _ rfl;rw [List.length_take];omega
   rw [if_neg e] at key hn;exact key _ hn
 · have hn:(if nm=n then some ((f nm).getD []++bs0.take t.toNat) else f n)=some bs:=hn;have key:∀ bs',(if nm=n then some ((f nm).getD []++bs0) else f n)=some bs'->bs'.length<=4194304:=key;by_cases e:nm=n
   · rw [if_pos e] at hn;injection hn with hn;subst hn;rw [if_pos e] at key;have:=key _ rfl;rw [List.length_append,List.length_take] at *; omega
   rw [if_neg e] at key hn;exact key _ hn
 · exact key _ hn
 exact key _ hn
theorem Ok.loss {s:St} (h:Ok s) (keep torn:Int):Small (lossF s keep torn):=by
 unfold lossF;split
 · exact h.kept
 split
 · rename_i o ho
   split
   · refine small_torn o torn ?_;rw [<- foldK_succ s ho];exact h.pre _
   exact h.pre _
 exact h.now
def Left (B:Nat) (EK:Files) (wr:World) (lb:Nat) (f:FF):Prop:=∃ E,FM wr lb E/\B<=lb/\(∀ q∈rooms E,B<=q.1)/\(∀ n,asc (plain E) n=f n)/\∀ e∈E,∀ g,blk e.2.1=some g->B<=g∨∃ c∈EK,blk c.2.1=some g/\e.2.1.len<=c.2.1.len
theorem Left.on {B lb:Nat} {EK:Files} {w w':World} {f:FF} (h:Left B EK w lb f) (hb:Below w.heap.size w w'):Left B EK w' lb f:=by
 obtain ⟨E,h1,h2⟩:=h;exact ⟨E,h1.on hb,h2⟩
theorem Left.op {B lb:Nat} {EK:Files} {wr:World} {f:FF} (h:Left B EK wr lb f) (hB:B<=wr.heap.size) (run:Value) (o:POp) (d:BD) (hn:okS o.nm) (ht:okS o.to) (hd:RB wr d o.bs) (hl:((f o.nm).getD []).length+o.bs.length<=1099511627776):
 Calls Tryz.prog o.k.fn #[.map (some lb),vOp run o.nm o.to d o.tears] wr (fun e w'=>e= .returned (.tuple #[])/\Left B EK w' lb (applyF f o)/\Below B wr w'):=by
 obtain ⟨E,h1,h2,h3,h4,h5⟩:=h;refine (op_any lb E run o d wr h1 hn ht hd (by rw [h4];exact hl)).mono ?_;rintro e w' ⟨rfl,E',a1,a2,a3,a4⟩;refine ⟨rfl,⟨E',a1,h2,fun q hq=>?_,fun n=>?_,fun e he g hg=>?_⟩,?_⟩
 · rcases a3.roomy q hq with k1 | ⟨q0,k1,k2,_⟩
   · omega
   rw [<- k2];exact h3 q0 k1
 · rw [a2 n];congr 1
   funext m
   exact h4 m
 · rcases a3 e he g hg with k1 | ⟨c,hc,c1,c2,c3⟩
   · exact .inl (by omega)
   rcases h5 c hc g c1 with k2 | ⟨c',hc',k3,k4⟩
   · exact .inl k2
   by_cases hl:e.2.1.len<=c.2.1.len
   · exact .inr ⟨c',hc',k3,by omega⟩
   have:=(a1.2.1 e he).2.1;exact .inl (h3 (g,c.2.1.len) (mem_rooms.2 ⟨c,hc,c1,rfl,by omega⟩))
 exact ⟨a4.os,a4.tape,a4.output,a4.size,fun i hi=>a4.block i (by omega) (fun e=>by omega) (fun q hq e=>by have:=h3 q hq;omega)⟩
theorem asc_perm {L L':List (ByteArray×List UInt8)} (h:L.Perm L') (hn:(L.map (·.1)).Nodup) (n:ByteArray):asc L n=asc L' n:=by
 have hn':(L'.map (·.1)).Nodup:=(h.map _).nodup_iff.1 hn;cases ha:asc L' n with
 | some v=>exact asc_mem hn (h.mem_iff.2 (mem_of_asc ha))
 | none=>
  cases hb:asc L n with
  | none=>rfl
  | some v=>
   have:=asc_mem hn' (h.mem_iff.1 (mem_of_asc hb));rw [ha] at this;cases this
theorem Left.copied {w w':World} {E:Files} {f:FF} {e:Ending} {b:Nat} (hE:FM w b E) (hf:∀ n,asc (plain E) n=f n) (h:CopiedPost E w e w'):∃ lb,e= .returned (.map (some lb))/\Left w.heap.size E w' lb f/\Below w.heap.size w w':=by
 obtain ⟨b',D,rfl,h2,h3,h4,h5⟩:=h;refine ⟨b',rfl,⟨D.map clipE,h3,h2,fun q hq=>?_,fun n=>?_,fun e he g hg=>?_⟩,h5⟩
 · obtain ⟨e,he,h1⟩:=mem_rooms.1 hq;obtain ⟨x,hx,rfl⟩:=List.mem_map.1 he;simp [clipE,clip] at h1
 · rw [clip_plain, <- hf n];have hp:(plain D).Perm (plain E):=h4.map _;exact asc_perm hp ((hp.map _).nodup_iff.2 (plain_nodup hE)) n
 obtain ⟨x,hx,rfl⟩:=List.mem_map.1 he;exact .inr ⟨x,h4.mem_iff.1 hx,hg,Nat.le_refl _⟩
theorem row_cell {w:World} {A:Option Addr} {c:Nat} {L:List (POp×BD)} (h:w.ownsRow 0 239 5 (.slice A L.length c) L.length (L.flatMap encO)) {k:Nat} {x:POp×BD} (hk:L[k]? =some x):
 ∃ g,A=some ⟨g,0,none⟩/\g<w.heap.size/\∀ j,j<5->w.cell? ⟨g,k*5+j,none⟩=(encO x)[j]? :=by
 have hlt:=(List.getElem?_eq_some_iff.1 hk).1;obtain ⟨g,cap,hv,_,hg⟩:=h.form (by omega);injection hv with h1 h2 h3;subst h1;refine ⟨g,rfl,hg,fun j hj=>?_⟩;subst h3;have hkj:k*5+j<L.length*5:=by omega
 rw [h.cellAt _ hkj,flat_at encO_len x L k j hlt hj,List.getD_eq_getElem?_getD,hk];rfl
end
end Go.Proofs.YteabgcollokgjaaGreatDoor
